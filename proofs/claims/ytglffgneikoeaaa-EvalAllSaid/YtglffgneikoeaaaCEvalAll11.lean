-- Written by drive.py and pack.py (programs of this proof's own) through the kit's printer; not trusted: Lean checks it.
import Derived.Test.YtglffgneikoeaaaCEvalAll4
import Derived.Test.YtglffgneikoeaaaCEvalAll9
import Derived.Test.YtglffgneikoeaaaCEvalAll10
import Derived.Test.YtglffgneikoeaaaCEvalAll8
import Derived.Test.YtglffgneikoeaaaCEvalAll6
import Derived.Test.YtglffgneikoeaaaCEvalAll5
import Derived.Lib.Strings
import Derived.Test.YtglffgneikoeaaaCEvalAll2
namespace Go.Proofs.Ytglffgneikoeaaa.M
open Go.RowKit Go.Proofs.YtglffgneikoeaaaW.PrintWords Go.Proofs.YtglffgneikoeaaaW.PrintLast Go.Proofs.YtglffgneikoeaaaW.PrintMore
attribute [local go_sem] max2_int min2_int max_two min_two max_three min_three max_four min_four
attribute [local go_sem high] own_gtr own_leq own_geq own_cell_set Option.map_some
set_option linter.unusedVariables false
set_option linter.unusedSimpArgs false
def A2b.f (k:Nat) (a0_0:Int) (a1:Int) (a2_0:Int) (a2_1:Int) (a2_2:Int) (a2_3:ByteArray) (a3_0:Int) (a3_1:Int) (a3_2:Int) (a3_3:ByteArray):Option (Int × Int × Int × ByteArray × Bool):=if a0_0 = 2 then ((A2n.f a1 a2_0 a2_1 a2_2 a2_3 a3_0 a3_1 a3_2 a3_3).bind fun bt105=>(some (bt105.1,bt105.2.1,bt105.2.2.1,bt105.2.2.2.1,bt105.2.2.2.2))) else ((Aec.f k a1 a2_0 a2_1 a2_2 a2_3 a3_0 a3_1 a3_2 a3_3).bind fun bt110=>(some (bt110.1,bt110.2.1,bt110.2.2.1,bt110.2.2.2.1,bt110.2.2.2.2)))
set_option maxHeartbeats 8000000 in
set_option maxRecDepth 100000 in
theorem A2b.calls (k:Nat) (a0_0:Int) (a1:Int) (a2_0:Int) (a2_1:Int) (a2_2:Int) (a2_3:ByteArray) (a3_0:Int) (a3_1:Int) (a3_2:Int) (a3_3:ByteArray) (r1:Int) (r2:Int) (r3:Int) (r4:ByteArray) (r5:Bool) (w:World) (h:A2b.f k a0_0 a1 a2_0 a2_1 a2_2 a2_3 a3_0 a3_1 a3_2 a3_3 = some (r1,r2,r3,r4,r5)) :
  Calls Try.prog 74 #[.agg #[.int .i64 a0_0], .int .i64 a1, .agg #[.int .i64 a2_0, .int .i64 a2_1, .int .i64 a2_2, .string a2_3], .agg #[.int .i64 a3_0, .int .i64 a3_1, .int .i64 a3_2, .string a3_3]] w fun e w'=>e = .returned (.tuple #[.agg #[.int .i64 r1, .int .i64 r2, .int .i64 r3, .string r4], .bool r5]) ∧ Below w.heap.size w w':=by
 have hu111:=Try.underlying111
 have hu28:=Try.underlying28
 have HB:=z_ (Below.refl w.heap.size w)
 have H:(if a0_0 = 2 then ((A2n.f a1 a2_0 a2_1 a2_2 a2_3 a3_0 a3_1 a3_2 a3_3).bind fun bt105=>(some (bt105.1,bt105.2.1,bt105.2.2.1,bt105.2.2.2.1,bt105.2.2.2.2))) else ((Aec.f k a1 a2_0 a2_1 a2_2 a2_3 a3_0 a3_1 a3_2 a3_3).bind fun bt110=>(some (bt110.1,bt110.2.1,bt110.2.2.1,bt110.2.2.2.1,bt110.2.2.2.2)))) = some (r1,r2,r3,r4,r5):=h
 clear h
 by_cases c5:a0_0 = 2
 ·rw [if_pos c5] at H
  have c5b0:(a0_0 == 2) = true:=beq_iff_eq.mpr c5
  have c5b1:(a0_0 != 2) = false:=bne_eq_false_iff_eq.mpr c5
  clear c5
  replace H:=Option.bind_eq_some_iff.mp H
  obtain ⟨⟨t105,t106,t107,t108,t109⟩,A60,H⟩:=H
  replace H:(some (t105,t106,t107,t108,t109)) = some (r1,r2,r3,r4,r5):=H
  have A6:=z_ A60
  clear A60
  simp only [Option.some.injEq,Prod.mk.injEq] at H
  obtain ⟨rfl,rfl,rfl,rfl,rfl⟩:=H
  go_enter Try.func74,Try.ntmps74
  go_wp2_with (first|((with_reducible refine gate_dst (N:=4) rfl ?_);refine box_event (by rfl) (N:=4) (by rfl) (cs:=#[.int .i64 a0_0]) (t:=111) W3 ?_;intro gb101 hg w7 hbox hb;have BK101:=z_ (hbox);have GW101:=z_ ((W0:w.heap.size ≤ gb101));have GE101:=z_ ((W0:w.heap.size ≤ gb101));replace HB:=z_ (below_step W5 hb);clear hb hbox hg)|((with_reducible refine gate_dst (N:=6) rfl ?_);refine box_event (by rfl) (N:=6) (by rfl) (cs:=#[.int .i64 a2_0, .int .i64 a2_1, .int .i64 a2_2, .string a2_3]) (t:=28) W3 ?_;intro gb102 hg w8 hbox hb;have BK102:=z_ (hbox);have GW102:=z_ ((W6:w.heap.size ≤ gb102));have GE102:=z_ ((W6:w.heap.size ≤ gb102));replace HB:=z_ (below_step zp1 hb);have NB101_102:=z_ ((A2t:gb101 ≠ gb102));have NB102_101:=z_ ((A2s:gb102 ≠ gb101));replace BK101:=z_ (zk BK101.out hb);clear hb hbox hg)|((with_reducible refine gate_dst (N:=7) rfl ?_);refine box_event (by rfl) (N:=7) (by rfl) (cs:=#[.int .i64 a3_0, .int .i64 a3_1, .int .i64 a3_2, .string a3_3]) (t:=28) W3 ?_;intro gb103 hg w9 hbox hb;have BK103:=z_ (hbox);have GW103:=z_ ((Aen:w.heap.size ≤ gb103));have GE103:=z_ ((Aen:w.heap.size ≤ gb103));replace HB:=z_ (below_step zp5 hb);have NB101_103:=z_ ((A2t:gb101 ≠ gb103));have NB103_101:=z_ ((A2s:gb103 ≠ gb101));replace BK101:=z_ (zk BK101.out hb);have NB102_103:=z_ ((Amd:gb102 ≠ gb103));have NB103_102:=z_ ((Aet:gb103 ≠ gb102));replace BK102:=z_ (zk BK102.out hb);clear hb hbox hg)|((with_reducible refine gate_dst (N:=8) rfl ?_);refine box_event (by rfl) (N:=8) (by rfl) (cs:=#[.int .i64 0, .int .i64 0, .int .i64 0, .string (⟨#[]⟩:ByteArray)]) (t:=28) W3 ?_;intro gb104 hg w10 hbox hb;have BK104:=z_ (hbox);have GW104:=z_ ((Aes:w.heap.size ≤ gb104));have GE104:=z_ ((Aes:w.heap.size ≤ gb104));replace HB:=z_ (below_step zp3 hb);have NB101_104:=z_ ((A2t:gb101 ≠ gb104));have NB104_101:=z_ ((A2s:gb104 ≠ gb101));replace BK101:=z_ (zk BK101.out hb);have NB102_104:=z_ ((Amd:gb102 ≠ gb104));have NB104_102:=z_ ((Aet:gb104 ≠ gb102));replace BK102:=z_ (zk BK102.out hb);have NB103_104:=z_ ((A6g:gb103 ≠ gb104));have NB104_103:=z_ ((A6h:gb104 ≠ gb103));replace BK103:=z_ (zk BK103.out hb);clear hb hbox hg;have hnb11:=NB101_102.out;have hnc11:=NB102_101.out;have hnb12:=NB101_103.out;have hnc12:=NB103_101.out;have hnb13:=NB101_104.out;have hnc13:=NB104_101.out;have hcz14_0:w10.cell? ⟨gb101,0,none⟩ = some (.int .i64 a0_0):=(Oi BK101.out 0).trans rfl;have hfz14_0:=S3 BK101.out 0;have hnb15:=NB102_103.out;have hnc15:=NB103_102.out;have hnb16:=NB102_104.out;have hnc16:=NB104_102.out;obtain ⟨_,_,_,_,_,_,_,_⟩:=Rr BK102.out;have hnb18:=NB103_104.out;have hnc18:=NB104_103.out;obtain ⟨_,_,_,_,_,_,_,_⟩:=Rr BK103.out)|((with_reducible refine gate_callee (f:=80) rfl ?_);refine goesL_ (some 16) rfl rfl Try.func80 (by kernel_rfl) rfl #[.int .i64 a1, .agg #[.int .i64 a2_0, .int .i64 a2_1, .int .i64 a2_2, .string a2_3], .agg #[.int .i64 a3_0, .int .i64 a3_1, .int .i64 a3_2, .string a3_3]] rfl W4 ?_;(with_reducible refine (A2n.calls a1 a2_0 a2_1 a2_2 a2_3 a3_0 a3_1 a3_2 a3_3 t105 t106 t107 t108 t109 _ A6.out).mono ?_);rintro e w20 ⟨rfl,hb⟩;refine ⟨_,rfl,?_⟩;replace BK101:=z_ (zk BK101.out hb);replace BK102:=z_ (zk BK102.out hb);replace BK103:=z_ (zk BK103.out hb);replace BK104:=z_ (zk BK104.out hb);replace HB:=z_ (below_step A6y hb);(try clear hb);(try clear hb2);(try clear hk);(try clear hi);obtain ⟨_,_,_,_,_,_,_,_⟩:=Rr BK104.out))
  refine bodyPost_ret (results_ct rfl _ _ gb104 28 #[.int .i64 t105, .int .i64 t106, .int .i64 t107, .string t108] (0,0) _ rfl (by (with_reducible repeat first|apply Jx|apply A7|apply K0);refine Tt (cs:=#[.int .i64 t105, .int .i64 t106, .int .i64 t107, .string (⟨#[]⟩:ByteArray)]) ?_ 3 _ rfl;(with_reducible repeat first|apply Jx|apply A7|apply K0);refine Tt (cs:=#[.int .i64 t105, .int .i64 t106, .int .i64 0, .string (⟨#[]⟩:ByteArray)]) ?_ 2 _ rfl;(with_reducible repeat first|apply Jx|apply A7|apply K0);refine Tt (cs:=#[.int .i64 t105, .int .i64 0, .int .i64 0, .string (⟨#[]⟩:ByteArray)]) ?_ 1 _ rfl;(with_reducible repeat first|apply Jx|apply A7|apply K0);refine Tt (cs:=#[.int .i64 0, .int .i64 0, .int .i64 0, .string (⟨#[]⟩:ByteArray)]) ?_ 0 _ rfl;(with_reducible repeat first|apply Jx|apply A7|apply K0);exact BK104.out) Try.underlying28 rfl (by kernel_rfl)) rfl ?_
  exact ⟨by first|rfl|(simp [errW_none,errW_some] <;> rfl)|(simp [*,errW_none,errW_some] <;> rfl),by repeat first|(with_reducible first|exact HB.out|apply zA|apply zN|apply z1|refine zS ?_ GE101.out|refine zS ?_ GE102.out|refine zS ?_ GE103.out|refine zS ?_ GE104.out)|exact HB.out⟩
 ·rw [if_neg c5] at H
  have c5b0:(a0_0 == 2) = false:=beq_eq_false_iff_ne.mpr c5
  have c5b1:(a0_0 != 2) = true:=bne_iff_ne.mpr c5
  replace H:=Option.bind_eq_some_iff.mp H
  obtain ⟨⟨t110,t111,t112,t113,t114⟩,A220,H⟩:=H
  replace H:(some (t110,t111,t112,t113,t114)) = some (r1,r2,r3,r4,r5):=H
  have A22:=z_ A220
  clear A220
  simp only [Option.some.injEq,Prod.mk.injEq] at H
  obtain ⟨rfl,rfl,rfl,rfl,rfl⟩:=H
  go_enter Try.func74,Try.ntmps74
  go_wp2_with (first|((with_reducible refine gate_dst (N:=4) rfl ?_);refine box_event (by rfl) (N:=4) (by rfl) (cs:=#[.int .i64 a0_0]) (t:=111) W3 ?_;intro gb101 hg w23 hbox hb;have BK101:=z_ (hbox);have GW101:=z_ ((W0:w.heap.size ≤ gb101));have GE101:=z_ ((W0:w.heap.size ≤ gb101));replace HB:=z_ (below_step W5 hb);clear hb hbox hg)|((with_reducible refine gate_dst (N:=6) rfl ?_);refine box_event (by rfl) (N:=6) (by rfl) (cs:=#[.int .i64 a2_0, .int .i64 a2_1, .int .i64 a2_2, .string a2_3]) (t:=28) W3 ?_;intro gb102 hg w24 hbox hb;have BK102:=z_ (hbox);have GW102:=z_ ((W6:w.heap.size ≤ gb102));have GE102:=z_ ((W6:w.heap.size ≤ gb102));replace HB:=z_ (below_step zp1 hb);have NB101_102:=z_ ((A2t:gb101 ≠ gb102));have NB102_101:=z_ ((A2s:gb102 ≠ gb101));replace BK101:=z_ (zk BK101.out hb);clear hb hbox hg)|((with_reducible refine gate_dst (N:=7) rfl ?_);refine box_event (by rfl) (N:=7) (by rfl) (cs:=#[.int .i64 a3_0, .int .i64 a3_1, .int .i64 a3_2, .string a3_3]) (t:=28) W3 ?_;intro gb103 hg w25 hbox hb;have BK103:=z_ (hbox);have GW103:=z_ ((Aen:w.heap.size ≤ gb103));have GE103:=z_ ((Aen:w.heap.size ≤ gb103));replace HB:=z_ (below_step zp5 hb);have NB101_103:=z_ ((A2t:gb101 ≠ gb103));have NB103_101:=z_ ((A2s:gb103 ≠ gb101));replace BK101:=z_ (zk BK101.out hb);have NB102_103:=z_ ((Amd:gb102 ≠ gb103));have NB103_102:=z_ ((Aet:gb103 ≠ gb102));replace BK102:=z_ (zk BK102.out hb);clear hb hbox hg)|((with_reducible refine gate_dst (N:=8) rfl ?_);refine box_event (by rfl) (N:=8) (by rfl) (cs:=#[.int .i64 0, .int .i64 0, .int .i64 0, .string (⟨#[]⟩:ByteArray)]) (t:=28) W3 ?_;intro gb104 hg w26 hbox hb;have BK104:=z_ (hbox);have GW104:=z_ ((Aes:w.heap.size ≤ gb104));have GE104:=z_ ((Aes:w.heap.size ≤ gb104));replace HB:=z_ (below_step zp3 hb);have NB101_104:=z_ ((A2t:gb101 ≠ gb104));have NB104_101:=z_ ((A2s:gb104 ≠ gb101));replace BK101:=z_ (zk BK101.out hb);have NB102_104:=z_ ((Amd:gb102 ≠ gb104));have NB104_102:=z_ ((Aet:gb104 ≠ gb102));replace BK102:=z_ (zk BK102.out hb);have NB103_104:=z_ ((A6g:gb103 ≠ gb104));have NB104_103:=z_ ((A6h:gb104 ≠ gb103));replace BK103:=z_ (zk BK103.out hb);clear hb hbox hg;have hnb27:=NB101_102.out;have hnc27:=NB102_101.out;have hnb28:=NB101_103.out;have hnc28:=NB103_101.out;have hnb29:=NB101_104.out;have hnc29:=NB104_101.out;have hcz30_0:w26.cell? ⟨gb101,0,none⟩ = some (.int .i64 a0_0):=(Oi BK101.out 0).trans rfl;have hfz30_0:=S3 BK101.out 0;have hnb31:=NB102_103.out;have hnc31:=NB103_102.out;have hnb32:=NB102_104.out;have hnc32:=NB104_102.out;obtain ⟨_,_,_,_,_,_,_,_⟩:=Rr BK102.out;have hnb34:=NB103_104.out;have hnc34:=NB104_103.out;obtain ⟨_,_,_,_,_,_,_,_⟩:=Rr BK103.out)|((with_reducible refine gate_callee (f:=81) rfl ?_);refine goesL_ (some 22) rfl rfl Try.func81 (by kernel_rfl) rfl #[.int .i64 a1, .agg #[.int .i64 a2_0, .int .i64 a2_1, .int .i64 a2_2, .string a2_3], .agg #[.int .i64 a3_0, .int .i64 a3_1, .int .i64 a3_2, .string a3_3]] rfl W4 ?_;(with_reducible refine (Aec.calls k a1 a2_0 a2_1 a2_2 a2_3 a3_0 a3_1 a3_2 a3_3 t110 t111 t112 t113 t114 _ A22.out).mono ?_);rintro e w36 ⟨rfl,hb⟩;refine ⟨_,rfl,?_⟩;replace BK101:=z_ (zk BK101.out hb);replace BK102:=z_ (zk BK102.out hb);replace BK103:=z_ (zk BK103.out hb);replace BK104:=z_ (zk BK104.out hb);replace HB:=z_ (below_step A6y hb);(try clear hb);(try clear hb2);(try clear hk);(try clear hi);obtain ⟨_,_,_,_,_,_,_,_⟩:=Rr BK104.out))
  refine bodyPost_ret (results_ct rfl _ _ gb104 28 #[.int .i64 t110, .int .i64 t111, .int .i64 t112, .string t113] (0,0) _ rfl (by (with_reducible repeat first|apply Jx|apply A7|apply K0);refine Tt (cs:=#[.int .i64 t110, .int .i64 t111, .int .i64 t112, .string (⟨#[]⟩:ByteArray)]) ?_ 3 _ rfl;(with_reducible repeat first|apply Jx|apply A7|apply K0);refine Tt (cs:=#[.int .i64 t110, .int .i64 t111, .int .i64 0, .string (⟨#[]⟩:ByteArray)]) ?_ 2 _ rfl;(with_reducible repeat first|apply Jx|apply A7|apply K0);refine Tt (cs:=#[.int .i64 t110, .int .i64 0, .int .i64 0, .string (⟨#[]⟩:ByteArray)]) ?_ 1 _ rfl;(with_reducible repeat first|apply Jx|apply A7|apply K0);refine Tt (cs:=#[.int .i64 0, .int .i64 0, .int .i64 0, .string (⟨#[]⟩:ByteArray)]) ?_ 0 _ rfl;(with_reducible repeat first|apply Jx|apply A7|apply K0);exact BK104.out) Try.underlying28 rfl (by kernel_rfl)) rfl ?_
  exact ⟨by first|rfl|(simp [errW_none,errW_some] <;> rfl)|(simp [*,errW_none,errW_some] <;> rfl),by repeat first|(with_reducible first|exact HB.out|apply zA|apply zN|apply z1|refine zS ?_ GE101.out|refine zS ?_ GE102.out|refine zS ?_ GE103.out|refine zS ?_ GE104.out)|exact HB.out⟩
end Go.Proofs.Ytglffgneikoeaaa.M
namespace Go.Proofs.Ytglffgneikoeaaa.M
open Go.RowKit Go.Proofs.YtglffgneikoeaaaW.PrintWords Go.Proofs.YtglffgneikoeaaaW.PrintLast Go.Proofs.YtglffgneikoeaaaW.PrintMore
attribute [local go_sem] max2_int min2_int max_two min_two max_three min_three max_four min_four
attribute [local go_sem high] own_gtr own_leq own_geq own_cell_set Option.map_some
set_option linter.unusedVariables false
set_option linter.unusedSimpArgs false
mutual
def Ad5.j0:Nat → Int → Int → Int → Int → ByteArray → Int → Int → Int → ByteArray → Option (Int × Int × Int × ByteArray × Int)
 | 0,_,_,_,_,_,_,_,_,_=>none
 | k + 1,x0,x102000,x102001,x102002,x102003,x103000,x103001,x103002,x103003=>if x0 = 6 then ((Aek.f x102000 x102001 x102002 x102003).bind fun t104=>(if t104 = true then ((Aek.f x103000 x103001 x103002 x103003).bind fun t105=>(Ad5.j1 k x0 (!t105) x102000 x102001 x102002 x102003 x103000 x103001 x103002 x103003)) else (Ad5.j1 k x0 true x102000 x102001 x102002 x102003 x103000 x103001 x103002 x103003))) else (if x0 = 7 then ((Aek.f x102000 x102001 x102002 x102003).bind fun t106=>(if t106 = true then ((Aek.f x103000 x103001 x103002 x103003).bind fun t107=>(Ad5.j1 k x0 (!t107) x102000 x102001 x102002 x102003 x103000 x103001 x103002 x103003)) else (Ad5.j1 k x0 true x102000 x102001 x102002 x102003 x103000 x103001 x103002 x103003))) else (if x0 = 8 then ((Aek.f x102000 x102001 x102002 x102003).bind fun t108=>(if t108 = true then ((Aek.f x103000 x103001 x103002 x103003).bind fun t109=>(Ad5.j1 k x0 (!t109) x102000 x102001 x102002 x102003 x103000 x103001 x103002 x103003)) else (Ad5.j1 k x0 true x102000 x102001 x102002 x102003 x103000 x103001 x103002 x103003))) else (Ad5.j1 k x0 true x102000 x102001 x102002 x102003 x103000 x103001 x103002 x103003)))
def Ad5.j1:Nat → Int → Bool → Int → Int → Int → ByteArray → Int → Int → Int → ByteArray → Option (Int × Int × Int × ByteArray × Int)
 | 0,_,_,_,_,_,_,_,_,_,_=>none
 | k + 1,x0,x17,x102000,x102001,x102002,x102003,x103000,x103001,x103002,x103003=>if x17 = true then (some (0,0,0,(⟨#[]⟩:ByteArray),5)) else (if x102000 = 0 then (Ad5.j2 k x0 true x102000 x102001 x102002 x102003 x103000 x103001 x103002 x103003) else (Ad5.j2 k x0 (x103000 == 0) x102000 x102001 x102002 x102003 x103000 x103001 x103002 x103003))
def Ad5.j2:Nat → Int → Bool → Int → Int → Int → ByteArray → Int → Int → Int → ByteArray → Option (Int × Int × Int × ByteArray × Int)
 | 0,_,_,_,_,_,_,_,_,_,_=>none
 | k + 1,x0,x39,x102000,x102001,x102002,x102003,x103000,x103001,x103002,x103003=>if x39 = true then (some (0,0,0,(⟨#[]⟩:ByteArray),0)) else (if x102000 = x103000 then ((A2b.f k x102000 x0 x102000 x102001 x102002 x102003 x103000 x103001 x103002 x103003).bind fun bt110=>(if bt110.2.2.2.2 = true then (some (bt110.1,bt110.2.1,bt110.2.2.1,bt110.2.2.2.1,0)) else (some (0,0,0,(⟨#[]⟩:ByteArray),10)))) else (some (0,0,0,(⟨#[]⟩:ByteArray),5)))
end
def Ad5.f (k:Nat) (a0:Int) (a1_0:Int) (a1_1:Int) (a1_2:Int) (a1_3:ByteArray) (a2_0:Int) (a2_1:Int) (a2_2:Int) (a2_3:ByteArray):Option (Int × Int × Int × ByteArray × Int):=if a0 = 4 then (Ad5.j0 k 8 a1_0 0 0 (⟨#[]⟩:ByteArray) a1_0 a1_1 a1_2 a1_3) else (Ad5.j0 k a0 a1_0 a1_1 a1_2 a1_3 a2_0 a2_1 a2_2 a2_3)
set_option maxHeartbeats 8000000 in
set_option maxRecDepth 100000 in
theorem Ad5.calls (k:Nat) (a0:Int) (a1_0:Int) (a1_1:Int) (a1_2:Int) (a1_3:ByteArray) (a2_0:Int) (a2_1:Int) (a2_2:Int) (a2_3:ByteArray) (r1:Int) (r2:Int) (r3:Int) (r4:ByteArray) (r5:Int) (w:World) (h:Ad5.f k a0 a1_0 a1_1 a1_2 a1_3 a2_0 a2_1 a2_2 a2_3 = some (r1,r2,r3,r4,r5)) :
  Calls Try.prog 64 #[.int .i64 a0, .agg #[.int .i64 a1_0, .int .i64 a1_1, .int .i64 a1_2, .string a1_3], .agg #[.int .i64 a2_0, .int .i64 a2_1, .int .i64 a2_2, .string a2_3]] w fun e w'=>e = .returned (.tuple #[.agg #[.int .i64 r1, .int .i64 r2, .int .i64 r3, .string r4], .int .i64 r5]) ∧ Below w.heap.size w w':=by
 have hu28:=Try.underlying28
 have hu111:=Try.underlying111
 have HB:=z_ (Below.refl w.heap.size w)
 have H:(if a0 = 4 then (Ad5.j0 k 8 a1_0 0 0 (⟨#[]⟩:ByteArray) a1_0 a1_1 a1_2 a1_3) else (Ad5.j0 k a0 a1_0 a1_1 a1_2 a1_3 a2_0 a2_1 a2_2 a2_3)) = some (r1,r2,r3,r4,r5):=h
 clear h
 have HC4:=z_ H
 clear H
 go_enter Try.func64,Try.ntmps64
 go_upto_if 12 with (first|((with_reducible refine gate_dst (N:=4) rfl ?_);refine box_event (by rfl) (N:=4) (by rfl) (cs:=#[.int .i64 a1_0, .int .i64 a1_1, .int .i64 a1_2, .string a1_3]) (t:=28) W3 ?_;intro gb101 hg w5 hbox hb;have BK101:=z_ (hbox);have GW101:=z_ ((W0:w.heap.size ≤ gb101));have GE101:=z_ ((W0:w.heap.size ≤ gb101));replace HB:=z_ (below_step W5 hb);clear hb hbox hg)|((with_reducible refine gate_dst (N:=5) rfl ?_);refine box_event (by rfl) (N:=5) (by rfl) (cs:=#[.int .i64 a2_0, .int .i64 a2_1, .int .i64 a2_2, .string a2_3]) (t:=28) W3 ?_;intro gb102 hg w6 hbox hb;have BK102:=z_ (hbox);have GW102:=z_ ((W6:w.heap.size ≤ gb102));have GE102:=z_ ((W6:w.heap.size ≤ gb102));replace HB:=z_ (below_step zp1 hb);have NB101_102:=z_ ((Aeh:gb101 ≠ gb102));have NB102_101:=z_ ((Aei:gb102 ≠ gb101));replace BK101:=z_ (zk BK101.out hb);clear hb hbox hg)|((with_reducible refine gate_dst (N:=6) rfl ?_);refine box_event (by rfl) (N:=6) (by rfl) (cs:=#[.int .i64 0, .int .i64 0, .int .i64 0, .string (⟨#[]⟩:ByteArray)]) (t:=28) W3 ?_;intro gb103 hg w7 hbox hb;have BK103:=z_ (hbox);have GW103:=z_ ((Aen:w.heap.size ≤ gb103));have GE103:=z_ ((Aen:w.heap.size ≤ gb103));replace HB:=z_ (below_step zp5 hb);have NB101_103:=z_ ((Aeh:gb101 ≠ gb103));have NB103_101:=z_ ((Aei:gb103 ≠ gb101));replace BK101:=z_ (zk BK101.out hb);have NB102_103:=z_ ((Amd:gb102 ≠ gb103));have NB103_102:=z_ ((Aet:gb103 ≠ gb102));replace BK102:=z_ (zk BK102.out hb);clear hb hbox hg))
 (try simp only [Act.put,List.setIfInBounds_toArray,List.set_cons_zero,List.set_cons_succ])
 go_cut [0] (fun v0 wc=>∃ (kq:Nat) (x0_3:Int) (x102000_3:Int) (x102001_3:Int) (x102002_3:Int) (x102003_3:ByteArray) (x103000_3:Int) (x103001_3:Int) (x103002_3:Int) (x103003_3:ByteArray),v0 = .int .i64 x0_3 ∧ Aside0 (Ad5.j0 kq x0_3 x102000_3 x102001_3 x102002_3 x102003_3 x103000_3 x103001_3 x103002_3 x103003_3 = some (r1,r2,r3,r4,r5)) ∧ Aside0 (kq ≤ k) ∧ Aside0 (wc.heap[gb101]? = some (.cells #[.int .i64 x102000_3, .int .i64 x102001_3, .int .i64 x102002_3, .string x102003_3] 28 (0,0))) ∧ Aside0 (wc.heap[gb102]? = some (.cells #[.int .i64 x103000_3, .int .i64 x103001_3, .int .i64 x103002_3, .string x103003_3] 28 (0,0))) ∧ Aside0 (wc.heap[gb103]? = some (.cells #[.int .i64 0, .int .i64 0, .int .i64 0, .string (⟨#[]⟩:ByteArray)] 28 (0,0))) ∧ Aside0 (Below w.heap.size w wc))
 case first =>
  have H:=HC4.out
  clear HC4
  by_cases c8:a0 = 4
  ·rw [if_pos c8] at H
   have c8b0:(a0 == 4) = true:=beq_iff_eq.mpr c8
   have c8b1:(a0 != 4) = false:=bne_eq_false_iff_eq.mpr c8
   clear c8
   (first|rw [c8b0]|(simp only [i64_w,i32_w];rw [c8b0])|skip)
   have H':=z_ H
   clear H
   try go_wp2
   have n0_:=z_ (A7 BK101.out)
   have n1_:=z_ (A7 BK102.out)
   have n2_:=z_ (A7 BK103.out)
   have n3_:=z_ (z1 HB.out)
   clear BK101
   clear BK102
   clear BK103
   clear HB
   have BK101:=n0_
   have BK102:=n1_
   have BK103:=n2_
   have HB:=n3_
   clear n0_ n1_ n2_ n3_
   refine start_ (n:=7) (S:=fun w'=>w'.cell? ⟨gb101,0,none⟩ = some (.int .i64 a1_0) ∧ w'.cell? ⟨gb101,1,none⟩ = some (.int .i64 a1_1) ∧ w'.cell? ⟨gb101,2,none⟩ = some (.int .i64 a1_2) ∧ w'.cell? ⟨gb101,3,none⟩ = some (.string a1_3)) (ds:=[5,6]) #[false,false,false,false,false,false,false] (by kernel_rfl) rfl rfl ⟨(Oi BK101.out 0).trans rfl,(Oi BK101.out 1).trans rfl,(Oi BK101.out 2).trans rfl,(Oi BK101.out 3).trans rfl⟩ (fun hHeld=>?_)
   generalize w7.drew = w9 at BK101 BK102 BK103 HB hHeld ⊢
   refine pure_ (i:=0) (N:=some 13) (v:=?_) (a':=?_) #[true,false,false,false,false,false,false] rfl rfl (by kernel_rfl) (fun _ _ _ h=>h) (Or.inl ⟨by rfl,?_⟩) ?_ ?_
   rotate_left
   ·intro w'
    go_simp
    with_reducible rfl
   rotate_left
   ·simp only [Act.put,List.setIfInBounds_toArray,List.set_cons_zero,List.set_cons_succ,i64_w,i32_w]
    rfl
   refine take_ (i:=1) (N:=some 14) (v:=?_) (a':=?_) #[true,true,false,false,false,false,false] rfl rfl (by kernel_rfl) (fun _ _ _ h=>h) (Or.inl ⟨by rfl,?_⟩) hHeld ?_ ?_
   rotate_left
   ·rintro w' ⟨s0,s1,s2,s3⟩
    go_simp
    with_reducible rfl
   rotate_left
   ·simp only [Act.put,List.setIfInBounds_toArray,List.set_cons_zero,List.set_cons_succ,i64_w,i32_w]
    rfl
   refine pure_ (i:=2) (N:=some 15) (v:=?_) (a':=?_) #[true,true,true,false,false,false,false] rfl rfl (by kernel_rfl) (fun _ _ _ h=>h) (Or.inl ⟨by rfl,?_⟩) ?_ ?_
   rotate_left
   ·intro w'
    go_simp
    with_reducible rfl
   rotate_left
   ·simp only [Act.put,List.setIfInBounds_toArray,List.set_cons_zero,List.set_cons_succ,i64_w,i32_w]
    rfl
   refine take_ (i:=3) (N:=some 16) (v:=?_) (a':=?_) #[true,true,true,true,false,false,false] rfl rfl (by kernel_rfl) (fun _ _ _ h=>h) (Or.inl ⟨by rfl,?_⟩) hHeld ?_ ?_
   rotate_left
   ·rintro w' ⟨s0,s1,s2,s3⟩
    go_simp
    with_reducible rfl
   rotate_left
   ·simp only [Act.put,List.setIfInBounds_toArray,List.set_cons_zero,List.set_cons_succ,i64_w,i32_w]
    rfl
   refine pure_ (i:=4) (N:=some 0) (v:=?_) (a':=?_) #[true,true,true,true,true,false,false] rfl rfl (by kernel_rfl) (fun _ _ _ h=>h) (Or.inl ⟨by rfl,?_⟩) ?_ ?_
   rotate_left
   ·intro w'
    go_simp
    with_reducible rfl
   rotate_left
   ·simp only [Act.put,List.setIfInBounds_toArray,List.set_cons_zero,List.set_cons_succ,i64_w,i32_w]
    rfl
   refine last_ (i:=5) (N:=none) #[true,true,true,true,true,true,false] rfl rfl (by kernel_rfl) (by decide) (fun K hK=>?_)
   have hs10:w9.cell? ⟨gb101,0,none⟩ = some (.int .i64 a1_0):=(Oi BK101.out 0).trans rfl
   have hfs10:=S3 BK101.out 0
   have hns10_1:=NB102_101.out
   have hns10_2:=NB103_101.out
   have hms10_1:=NB101_102.out
   have hms10_2:=NB101_103.out
   have hs11:w9.cell? ⟨gb101,1,none⟩ = some (.int .i64 a1_1):=(Oi BK101.out 1).trans rfl
   have hfs11:=S3 BK101.out 1
   have hns11_1:=NB102_101.out
   have hns11_2:=NB103_101.out
   have hms11_1:=NB101_102.out
   have hms11_2:=NB101_103.out
   have hs12:w9.cell? ⟨gb101,2,none⟩ = some (.int .i64 a1_2):=(Oi BK101.out 2).trans rfl
   have hfs12:=S3 BK101.out 2
   have hns12_1:=NB102_101.out
   have hns12_2:=NB103_101.out
   have hms12_1:=NB101_102.out
   have hms12_2:=NB101_103.out
   have hs13:w9.cell? ⟨gb101,3,none⟩ = some (.string a1_3):=(Oi BK101.out 3).trans rfl
   have hfs13:=S3 BK101.out 3
   have hns13_1:=NB102_101.out
   have hns13_2:=NB103_101.out
   have hms13_1:=NB101_102.out
   have hms13_2:=NB101_103.out
   refine skip_ (w1:=?_) (by rfl) rfl ?_ ?_
   rotate_left
   ·go_simp
    rfl
   refine hK.out _ _ ?_
   clear hK K
   refine last_ (i:=6) (N:=none) #[true,true,true,true,true,true,true] rfl rfl (by kernel_rfl) (by decide) (fun K hK=>?_)
   have hs14:w9.cell? ⟨gb102,0,none⟩ = some (.int .i64 a2_0):=(Oi BK102.out 0).trans rfl
   have hfs14:=S3 BK102.out 0
   have hns14_0:=NB101_102.out
   have hns14_2:=NB103_102.out
   have hms14_0:=NB102_101.out
   have hms14_2:=NB102_103.out
   have hs15:w9.cell? ⟨gb102,1,none⟩ = some (.int .i64 a2_1):=(Oi BK102.out 1).trans rfl
   have hfs15:=S3 BK102.out 1
   have hns15_0:=NB101_102.out
   have hns15_2:=NB103_102.out
   have hms15_0:=NB102_101.out
   have hms15_2:=NB102_103.out
   have hs16:w9.cell? ⟨gb102,2,none⟩ = some (.int .i64 a2_2):=(Oi BK102.out 2).trans rfl
   have hfs16:=S3 BK102.out 2
   have hns16_0:=NB101_102.out
   have hns16_2:=NB103_102.out
   have hms16_0:=NB102_101.out
   have hms16_2:=NB102_103.out
   have hs17:w9.cell? ⟨gb102,3,none⟩ = some (.string a2_3):=(Oi BK102.out 3).trans rfl
   have hfs17:=S3 BK102.out 3
   have hns17_0:=NB101_102.out
   have hns17_2:=NB103_102.out
   have hms17_0:=NB102_101.out
   have hms17_2:=NB102_103.out
   refine skip_ (w1:=?_) (by rfl) rfl ?_ ?_
   rotate_left
   ·go_simp
    rfl
   refine hK.out _ _ ?_
   clear hK K
   refine done_ (by kernel_rfl) ?_
   try go_wp2
   go_meet
   case rel=>exact ⟨_,(8),(a1_0),(0),(0),((⟨#[]⟩:ByteArray)),(a1_0),(a1_1),(a1_2),(a1_3),Adz,H',⟨by first|omega|exact Nat.le_refl _⟩,⟨by (with_reducible repeat first|apply Jx|apply A7|apply K0);refine S0 ?_ NB101_102.out _;(with_reducible repeat first|apply Jx|apply A7|apply K0);refine S0 ?_ NB101_102.out _;(with_reducible repeat first|apply Jx|apply A7|apply K0);refine S0 ?_ NB101_102.out _;(with_reducible repeat first|apply Jx|apply A7|apply K0);refine S0 ?_ NB101_102.out _;(with_reducible repeat first|apply Jx|apply A7|apply K0);refine Tt (cs:=#[.int .i64 a1_0, .int .i64 0, .int .i64 0, .string a1_3]) ?_ 3 _ rfl;(with_reducible repeat first|apply Jx|apply A7|apply K0);refine Tt (cs:=#[.int .i64 a1_0, .int .i64 0, .int .i64 a1_2, .string a1_3]) ?_ 2 _ rfl;(with_reducible repeat first|apply Jx|apply A7|apply K0);refine Tt (cs:=#[.int .i64 a1_0, .int .i64 a1_1, .int .i64 a1_2, .string a1_3]) ?_ 1 _ rfl;(with_reducible repeat first|apply Jx|apply A7|apply K0);refine Tt (cs:=#[.int .i64 a1_0, .int .i64 a1_1, .int .i64 a1_2, .string a1_3]) ?_ 0 _ rfl;(with_reducible repeat first|apply Jx|apply A7|apply K0);exact BK101.out⟩,⟨by (with_reducible repeat first|apply Jx|apply A7|apply K0);refine Tt (cs:=#[.int .i64 a1_0, .int .i64 a1_1, .int .i64 a1_2, .string a2_3]) ?_ 3 _ rfl;(with_reducible repeat first|apply Jx|apply A7|apply K0);refine Tt (cs:=#[.int .i64 a1_0, .int .i64 a1_1, .int .i64 a2_2, .string a2_3]) ?_ 2 _ rfl;(with_reducible repeat first|apply Jx|apply A7|apply K0);refine Tt (cs:=#[.int .i64 a1_0, .int .i64 a2_1, .int .i64 a2_2, .string a2_3]) ?_ 1 _ rfl;(with_reducible repeat first|apply Jx|apply A7|apply K0);refine Tt (cs:=#[.int .i64 a2_0, .int .i64 a2_1, .int .i64 a2_2, .string a2_3]) ?_ 0 _ rfl;(with_reducible repeat first|apply Jx|apply A7|apply K0);refine S0 ?_ NB102_101.out _;(with_reducible repeat first|apply Jx|apply A7|apply K0);refine S0 ?_ NB102_101.out _;(with_reducible repeat first|apply Jx|apply A7|apply K0);refine S0 ?_ NB102_101.out _;(with_reducible repeat first|apply Jx|apply A7|apply K0);refine S0 ?_ NB102_101.out _;(with_reducible repeat first|apply Jx|apply A7|apply K0);exact BK102.out⟩,⟨by (with_reducible repeat first|apply Jx|apply A7|apply K0);refine S0 ?_ NB103_102.out _;(with_reducible repeat first|apply Jx|apply A7|apply K0);refine S0 ?_ NB103_102.out _;(with_reducible repeat first|apply Jx|apply A7|apply K0);refine S0 ?_ NB103_102.out _;(with_reducible repeat first|apply Jx|apply A7|apply K0);refine S0 ?_ NB103_102.out _;(with_reducible repeat first|apply Jx|apply A7|apply K0);refine S0 ?_ NB103_101.out _;(with_reducible repeat first|apply Jx|apply A7|apply K0);refine S0 ?_ NB103_101.out _;(with_reducible repeat first|apply Jx|apply A7|apply K0);refine S0 ?_ NB103_101.out _;(with_reducible repeat first|apply Jx|apply A7|apply K0);refine S0 ?_ NB103_101.out _;(with_reducible repeat first|apply Jx|apply A7|apply K0);exact BK103.out⟩,⟨by repeat first|(with_reducible first|exact HB.out|apply zA|apply zN|apply z1|refine zS ?_ GE101.out|refine zS ?_ GE102.out|refine zS ?_ GE103.out)|exact HB.out⟩⟩
  ·rw [if_neg c8] at H
   have c8b0:(a0 == 4) = false:=beq_eq_false_iff_ne.mpr c8
   have c8b1:(a0 != 4) = true:=bne_iff_ne.mpr c8
   (first|rw [c8b0]|(simp only [i64_w,i32_w];rw [c8b0])|skip)
   have H':=z_ H
   clear H
   go_wp2
   go_meet
   case rel=>exact ⟨_,(a0),(a1_0),(a1_1),(a1_2),(a1_3),(a2_0),(a2_1),(a2_2),(a2_3),Adz,H',⟨by first|omega|exact Nat.le_refl _⟩,⟨by (with_reducible repeat first|apply Jx|apply A7|apply K0);exact BK101.out⟩,⟨by (with_reducible repeat first|apply Jx|apply A7|apply K0);exact BK102.out⟩,⟨by (with_reducible repeat first|apply Jx|apply A7|apply K0);exact BK103.out⟩,⟨by repeat first|(with_reducible first|exact HB.out|apply zA|apply zN|apply z1|refine zS ?_ GE101.out|refine zS ?_ GE102.out|refine zS ?_ GE103.out)|exact HB.out⟩⟩
 case rest =>
  clear HC4
  try clear p2
  try clear c6
  try clear c8
  try clear c8b0
  try clear c8b1
  obtain ⟨kq,x0_3,x102000_3,x102001_3,x102002_3,x102003_3,x103000_3,x103001_3,x103002_3,x103003_3,rfl,HA,HJ3,BK101,BK102,BK103,HB⟩:=hcut
  cases kq with
  | zero=>exact absurd HA.out (by simp [Ad5.j0])
  | succ kj3 =>
   have H:=HA.out
   clear HA
   simp only [Ad5.j0] at H
   have HC18:=z_ H
   clear H
   go_upto_region 3 with (fail)
   go_cut [17] (fun v17 wc=>∃ (kq:Nat) (x17_17:Bool),v17 = .bool x17_17 ∧ Aside0 (Ad5.j1 kq x0_3 x17_17 x102000_3 x102001_3 x102002_3 x102003_3 x103000_3 x103001_3 x103002_3 x103003_3 = some (r1,r2,r3,r4,r5)) ∧ Aside0 (kq ≤ kj3) ∧ Aside0 (wc.heap[gb101]? = some (.cells #[.int .i64 x102000_3, .int .i64 x102001_3, .int .i64 x102002_3, .string x102003_3] 28 (0,0))) ∧ Aside0 (wc.heap[gb102]? = some (.cells #[.int .i64 x103000_3, .int .i64 x103001_3, .int .i64 x103002_3, .string x103003_3] 28 (0,0))) ∧ Aside0 (wc.heap[gb103]? = some (.cells #[.int .i64 0, .int .i64 0, .int .i64 0, .string (⟨#[]⟩:ByteArray)] 28 (0,0))) ∧ Aside0 (Below w.heap.size w wc))
   case first =>
    have H:=HC18.out
    clear HC18
    by_cases c19:x0_3 = 6
    ·rw [if_pos c19] at H
     have c19b0:(x0_3 == 6) = true:=beq_iff_eq.mpr c19
     have c19b1:(x0_3 != 6) = false:=bne_eq_false_iff_eq.mpr c19
     clear c19
     (first|rw [c19b0]|(simp only [i64_w,i32_w];rw [c19b0])|skip)
     replace H:=Option.bind_eq_some_iff.mp H
     obtain ⟨t104,A200,H⟩:=H
     replace H:(if t104 = true then ((Aek.f x103000_3 x103001_3 x103002_3 x103003_3).bind fun t105=>(Ad5.j1 kj3 x0_3 (!t105) x102000_3 x102001_3 x102002_3 x102003_3 x103000_3 x103001_3 x103002_3 x103003_3)) else (Ad5.j1 kj3 x0_3 true x102000_3 x102001_3 x102002_3 x102003_3 x103000_3 x103001_3 x103002_3 x103003_3)) = some (r1,r2,r3,r4,r5):=H
     have A20:=z_ A200
     clear A200
     by_cases c21:t104 = true
     ·subst c21
      have H1:((Aek.f x103000_3 x103001_3 x103002_3 x103003_3).bind fun t105=>(Ad5.j1 kj3 x0_3 (!t105) x102000_3 x102001_3 x102002_3 x102003_3 x103000_3 x103001_3 x103002_3 x103003_3)) = some (r1,r2,r3,r4,r5):=by rw [if_pos rfl] at H;exact H
      clear H
      have H:=H1
      clear H1
      replace H:=Option.bind_eq_some_iff.mp H
      obtain ⟨t105,A220,H⟩:=H
      replace H:(Ad5.j1 kj3 x0_3 (!t105) x102000_3 x102001_3 x102002_3 x102003_3 x103000_3 x103001_3 x103002_3 x103003_3) = some (r1,r2,r3,r4,r5):=H
      have A22:=z_ A220
      clear A220
      have H':=z_ H
      clear H
      have hnb23:=NB101_102.out
      have hnc23:=NB102_101.out
      have hnb24:=NB101_103.out
      have hnc24:=NB103_101.out
      obtain ⟨_,_,_,_,_,_,_,_⟩:=Rr BK101.out
      go_wp2_with (first|(go_at_call 73;(with_reducible refine (Aek.calls x102000_3 x102001_3 x102002_3 x102003_3 true _ A20.out).mono ?_);rintro e w26 ⟨rfl,hb⟩;have n0_:=z_ (zk BK101.out hb);have n1_:=z_ (zk BK102.out hb);have n2_:=z_ (zk BK103.out hb);have n3_:=z_ (below_step zp3 hb);clear BK101;clear BK102;clear BK103;clear HB;have BK101:=n0_;have BK102:=n1_;have BK103:=n2_;have HB:=n3_;clear n0_ n1_ n2_ n3_;(try clear hb);(try clear hb2);(try clear hk);(try clear hi);have hnb27:=NB102_103.out;have hnc27:=NB103_102.out;obtain ⟨_,_,_,_,_,_,_,_⟩:=Rr BK102.out)|(go_at_call 73;(with_reducible refine (Aek.calls x103000_3 x103001_3 x103002_3 x103003_3 t105 _ A22.out).mono ?_);rintro e w29 ⟨rfl,hb⟩;have n0_:=z_ (zk BK101.out hb);have n1_:=z_ (zk BK102.out hb);have n2_:=z_ (zk BK103.out hb);have n3_:=z_ (below_step zp3 hb);clear BK101;clear BK102;clear BK103;clear HB;have BK101:=n0_;have BK102:=n1_;have BK103:=n2_;have HB:=n3_;clear n0_ n1_ n2_ n3_;(try clear hb);(try clear hb2);(try clear hk);(try clear hi)))
      go_meet
      case rel=>exact ⟨_,(!t105),Adz,H',⟨by have:=HJ3.out;first|omega|exact Nat.le_refl _⟩,⟨by (with_reducible repeat first|apply Jx|apply A7|apply K0);exact BK101.out⟩,⟨by (with_reducible repeat first|apply Jx|apply A7|apply K0);exact BK102.out⟩,⟨by (with_reducible repeat first|apply Jx|apply A7|apply K0);exact BK103.out⟩,⟨by repeat first|(with_reducible first|exact HB.out|apply zA|apply zN|apply z1|refine zS ?_ GE101.out|refine zS ?_ GE102.out|refine zS ?_ GE103.out)|exact HB.out⟩⟩
     ·replace c21:=Bool.eq_false_iff.mpr c21
      subst c21
      have H1:(Ad5.j1 kj3 x0_3 true x102000_3 x102001_3 x102002_3 x102003_3 x103000_3 x103001_3 x103002_3 x103003_3) = some (r1,r2,r3,r4,r5):=by rw [if_neg (show ¬ (false = true) by decide)] at H;exact H
      clear H
      have H:=H1
      clear H1
      have H':=z_ H
      clear H
      have hnb30:=NB101_102.out
      have hnc30:=NB102_101.out
      have hnb31:=NB101_103.out
      have hnc31:=NB103_101.out
      obtain ⟨_,_,_,_,_,_,_,_⟩:=Rr BK101.out
      go_wp2_with (first|(go_at_call 73;(with_reducible refine (Aek.calls x102000_3 x102001_3 x102002_3 x102003_3 false _ A20.out).mono ?_);rintro e w33 ⟨rfl,hb⟩;have n0_:=z_ (zk BK101.out hb);have n1_:=z_ (zk BK102.out hb);have n2_:=z_ (zk BK103.out hb);have n3_:=z_ (below_step zp3 hb);clear BK101;clear BK102;clear BK103;clear HB;have BK101:=n0_;have BK102:=n1_;have BK103:=n2_;have HB:=n3_;clear n0_ n1_ n2_ n3_;(try clear hb);(try clear hb2);(try clear hk);(try clear hi)))
      go_meet
      case rel=>exact ⟨_,(true),Adz,H',⟨by have:=HJ3.out;first|omega|exact Nat.le_refl _⟩,⟨by (with_reducible repeat first|apply Jx|apply A7|apply K0);exact BK101.out⟩,⟨by (with_reducible repeat first|apply Jx|apply A7|apply K0);exact BK102.out⟩,⟨by (with_reducible repeat first|apply Jx|apply A7|apply K0);exact BK103.out⟩,⟨by repeat first|(with_reducible first|exact HB.out|apply zA|apply zN|apply z1|refine zS ?_ GE101.out|refine zS ?_ GE102.out|refine zS ?_ GE103.out)|exact HB.out⟩⟩
    ·rw [if_neg c19] at H
     have c19b0:(x0_3 == 6) = false:=beq_eq_false_iff_ne.mpr c19
     have c19b1:(x0_3 != 6) = true:=bne_iff_ne.mpr c19
     (first|rw [c19b0]|(simp only [i64_w,i32_w];rw [c19b0])|skip)
     by_cases c34:x0_3 = 7
     ·rw [if_pos c34] at H
      have c34b0:(x0_3 == 7) = true:=beq_iff_eq.mpr c34
      have c34b1:(x0_3 != 7) = false:=bne_eq_false_iff_eq.mpr c34
      clear c34
      replace H:=Option.bind_eq_some_iff.mp H
      obtain ⟨t106,A350,H⟩:=H
      replace H:(if t106 = true then ((Aek.f x103000_3 x103001_3 x103002_3 x103003_3).bind fun t107=>(Ad5.j1 kj3 x0_3 (!t107) x102000_3 x102001_3 x102002_3 x102003_3 x103000_3 x103001_3 x103002_3 x103003_3)) else (Ad5.j1 kj3 x0_3 true x102000_3 x102001_3 x102002_3 x102003_3 x103000_3 x103001_3 x103002_3 x103003_3)) = some (r1,r2,r3,r4,r5):=H
      have A35:=z_ A350
      clear A350
      by_cases c36:t106 = true
      ·subst c36
       have H1:((Aek.f x103000_3 x103001_3 x103002_3 x103003_3).bind fun t107=>(Ad5.j1 kj3 x0_3 (!t107) x102000_3 x102001_3 x102002_3 x102003_3 x103000_3 x103001_3 x103002_3 x103003_3)) = some (r1,r2,r3,r4,r5):=by rw [if_pos rfl] at H;exact H
       clear H
       have H:=H1
       clear H1
       replace H:=Option.bind_eq_some_iff.mp H
       obtain ⟨t107,A370,H⟩:=H
       replace H:(Ad5.j1 kj3 x0_3 (!t107) x102000_3 x102001_3 x102002_3 x102003_3 x103000_3 x103001_3 x103002_3 x103003_3) = some (r1,r2,r3,r4,r5):=H
       have A37:=z_ A370
       clear A370
       have H':=z_ H
       clear H
       have hnb38:=NB101_102.out
       have hnc38:=NB102_101.out
       have hnb39:=NB101_103.out
       have hnc39:=NB103_101.out
       obtain ⟨_,_,_,_,_,_,_,_⟩:=Rr BK101.out
       go_wp2_with (first|(go_at_call 73;(with_reducible refine (Aek.calls x102000_3 x102001_3 x102002_3 x102003_3 true _ A35.out).mono ?_);rintro e w41 ⟨rfl,hb⟩;have n0_:=z_ (zk BK101.out hb);have n1_:=z_ (zk BK102.out hb);have n2_:=z_ (zk BK103.out hb);have n3_:=z_ (below_step zp3 hb);clear BK101;clear BK102;clear BK103;clear HB;have BK101:=n0_;have BK102:=n1_;have BK103:=n2_;have HB:=n3_;clear n0_ n1_ n2_ n3_;(try clear hb);(try clear hb2);(try clear hk);(try clear hi);have hnb42:=NB102_103.out;have hnc42:=NB103_102.out;obtain ⟨_,_,_,_,_,_,_,_⟩:=Rr BK102.out)|(go_at_call 73;(with_reducible refine (Aek.calls x103000_3 x103001_3 x103002_3 x103003_3 t107 _ A37.out).mono ?_);rintro e w44 ⟨rfl,hb⟩;have n0_:=z_ (zk BK101.out hb);have n1_:=z_ (zk BK102.out hb);have n2_:=z_ (zk BK103.out hb);have n3_:=z_ (below_step zp3 hb);clear BK101;clear BK102;clear BK103;clear HB;have BK101:=n0_;have BK102:=n1_;have BK103:=n2_;have HB:=n3_;clear n0_ n1_ n2_ n3_;(try clear hb);(try clear hb2);(try clear hk);(try clear hi)))
       go_meet
       case rel=>exact ⟨_,(!t107),Adz,H',⟨by have:=HJ3.out;first|omega|exact Nat.le_refl _⟩,⟨by (with_reducible repeat first|apply Jx|apply A7|apply K0);exact BK101.out⟩,⟨by (with_reducible repeat first|apply Jx|apply A7|apply K0);exact BK102.out⟩,⟨by (with_reducible repeat first|apply Jx|apply A7|apply K0);exact BK103.out⟩,⟨by repeat first|(with_reducible first|exact HB.out|apply zA|apply zN|apply z1|refine zS ?_ GE101.out|refine zS ?_ GE102.out|refine zS ?_ GE103.out)|exact HB.out⟩⟩
      ·replace c36:=Bool.eq_false_iff.mpr c36
       subst c36
       have H1:(Ad5.j1 kj3 x0_3 true x102000_3 x102001_3 x102002_3 x102003_3 x103000_3 x103001_3 x103002_3 x103003_3) = some (r1,r2,r3,r4,r5):=by rw [if_neg (show ¬ (false = true) by decide)] at H;exact H
       clear H
       have H:=H1
       clear H1
       have H':=z_ H
       clear H
       have hnb45:=NB101_102.out
       have hnc45:=NB102_101.out
       have hnb46:=NB101_103.out
       have hnc46:=NB103_101.out
       obtain ⟨_,_,_,_,_,_,_,_⟩:=Rr BK101.out
       go_wp2_with (first|(go_at_call 73;(with_reducible refine (Aek.calls x102000_3 x102001_3 x102002_3 x102003_3 false _ A35.out).mono ?_);rintro e w48 ⟨rfl,hb⟩;have n0_:=z_ (zk BK101.out hb);have n1_:=z_ (zk BK102.out hb);have n2_:=z_ (zk BK103.out hb);have n3_:=z_ (below_step zp3 hb);clear BK101;clear BK102;clear BK103;clear HB;have BK101:=n0_;have BK102:=n1_;have BK103:=n2_;have HB:=n3_;clear n0_ n1_ n2_ n3_;(try clear hb);(try clear hb2);(try clear hk);(try clear hi)))
       go_meet
       case rel=>exact ⟨_,(true),Adz,H',⟨by have:=HJ3.out;first|omega|exact Nat.le_refl _⟩,⟨by (with_reducible repeat first|apply Jx|apply A7|apply K0);exact BK101.out⟩,⟨by (with_reducible repeat first|apply Jx|apply A7|apply K0);exact BK102.out⟩,⟨by (with_reducible repeat first|apply Jx|apply A7|apply K0);exact BK103.out⟩,⟨by repeat first|(with_reducible first|exact HB.out|apply zA|apply zN|apply z1|refine zS ?_ GE101.out|refine zS ?_ GE102.out|refine zS ?_ GE103.out)|exact HB.out⟩⟩
     ·rw [if_neg c34] at H
      have c34b0:(x0_3 == 7) = false:=beq_eq_false_iff_ne.mpr c34
      have c34b1:(x0_3 != 7) = true:=bne_iff_ne.mpr c34
      by_cases c49:x0_3 = 8
      ·rw [if_pos c49] at H
       have c49b0:(x0_3 == 8) = true:=beq_iff_eq.mpr c49
       have c49b1:(x0_3 != 8) = false:=bne_eq_false_iff_eq.mpr c49
       clear c49
       replace H:=Option.bind_eq_some_iff.mp H
       obtain ⟨t108,A500,H⟩:=H
       replace H:(if t108 = true then ((Aek.f x103000_3 x103001_3 x103002_3 x103003_3).bind fun t109=>(Ad5.j1 kj3 x0_3 (!t109) x102000_3 x102001_3 x102002_3 x102003_3 x103000_3 x103001_3 x103002_3 x103003_3)) else (Ad5.j1 kj3 x0_3 true x102000_3 x102001_3 x102002_3 x102003_3 x103000_3 x103001_3 x103002_3 x103003_3)) = some (r1,r2,r3,r4,r5):=H
       have A50:=z_ A500
       clear A500
       by_cases c51:t108 = true
       ·subst c51
        have H1:((Aek.f x103000_3 x103001_3 x103002_3 x103003_3).bind fun t109=>(Ad5.j1 kj3 x0_3 (!t109) x102000_3 x102001_3 x102002_3 x102003_3 x103000_3 x103001_3 x103002_3 x103003_3)) = some (r1,r2,r3,r4,r5):=by rw [if_pos rfl] at H;exact H
        clear H
        have H:=H1
        clear H1
        replace H:=Option.bind_eq_some_iff.mp H
        obtain ⟨t109,A520,H⟩:=H
        replace H:(Ad5.j1 kj3 x0_3 (!t109) x102000_3 x102001_3 x102002_3 x102003_3 x103000_3 x103001_3 x103002_3 x103003_3) = some (r1,r2,r3,r4,r5):=H
        have A52:=z_ A520
        clear A520
        have H':=z_ H
        clear H
        have hnb53:=NB101_102.out
        have hnc53:=NB102_101.out
        have hnb54:=NB101_103.out
        have hnc54:=NB103_101.out
        obtain ⟨_,_,_,_,_,_,_,_⟩:=Rr BK101.out
        go_wp2_with (first|(go_at_call 73;(with_reducible refine (Aek.calls x102000_3 x102001_3 x102002_3 x102003_3 true _ A50.out).mono ?_);rintro e w56 ⟨rfl,hb⟩;have n0_:=z_ (zk BK101.out hb);have n1_:=z_ (zk BK102.out hb);have n2_:=z_ (zk BK103.out hb);have n3_:=z_ (below_step zp3 hb);clear BK101;clear BK102;clear BK103;clear HB;have BK101:=n0_;have BK102:=n1_;have BK103:=n2_;have HB:=n3_;clear n0_ n1_ n2_ n3_;(try clear hb);(try clear hb2);(try clear hk);(try clear hi);have hnb57:=NB102_103.out;have hnc57:=NB103_102.out;obtain ⟨_,_,_,_,_,_,_,_⟩:=Rr BK102.out)|(go_at_call 73;(with_reducible refine (Aek.calls x103000_3 x103001_3 x103002_3 x103003_3 t109 _ A52.out).mono ?_);rintro e w59 ⟨rfl,hb⟩;have n0_:=z_ (zk BK101.out hb);have n1_:=z_ (zk BK102.out hb);have n2_:=z_ (zk BK103.out hb);have n3_:=z_ (below_step zp3 hb);clear BK101;clear BK102;clear BK103;clear HB;have BK101:=n0_;have BK102:=n1_;have BK103:=n2_;have HB:=n3_;clear n0_ n1_ n2_ n3_;(try clear hb);(try clear hb2);(try clear hk);(try clear hi)))
        go_meet
        case rel=>exact ⟨_,(!t109),Adz,H',⟨by have:=HJ3.out;first|omega|exact Nat.le_refl _⟩,⟨by (with_reducible repeat first|apply Jx|apply A7|apply K0);exact BK101.out⟩,⟨by (with_reducible repeat first|apply Jx|apply A7|apply K0);exact BK102.out⟩,⟨by (with_reducible repeat first|apply Jx|apply A7|apply K0);exact BK103.out⟩,⟨by repeat first|(with_reducible first|exact HB.out|apply zA|apply zN|apply z1|refine zS ?_ GE101.out|refine zS ?_ GE102.out|refine zS ?_ GE103.out)|exact HB.out⟩⟩
       ·replace c51:=Bool.eq_false_iff.mpr c51
        subst c51
        have H1:(Ad5.j1 kj3 x0_3 true x102000_3 x102001_3 x102002_3 x102003_3 x103000_3 x103001_3 x103002_3 x103003_3) = some (r1,r2,r3,r4,r5):=by rw [if_neg (show ¬ (false = true) by decide)] at H;exact H
        clear H
        have H:=H1
        clear H1
        have H':=z_ H
        clear H
        have hnb60:=NB101_102.out
        have hnc60:=NB102_101.out
        have hnb61:=NB101_103.out
        have hnc61:=NB103_101.out
        obtain ⟨_,_,_,_,_,_,_,_⟩:=Rr BK101.out
        go_wp2_with (first|(go_at_call 73;(with_reducible refine (Aek.calls x102000_3 x102001_3 x102002_3 x102003_3 false _ A50.out).mono ?_);rintro e w63 ⟨rfl,hb⟩;have n0_:=z_ (zk BK101.out hb);have n1_:=z_ (zk BK102.out hb);have n2_:=z_ (zk BK103.out hb);have n3_:=z_ (below_step zp3 hb);clear BK101;clear BK102;clear BK103;clear HB;have BK101:=n0_;have BK102:=n1_;have BK103:=n2_;have HB:=n3_;clear n0_ n1_ n2_ n3_;(try clear hb);(try clear hb2);(try clear hk);(try clear hi)))
        go_meet
        case rel=>exact ⟨_,(true),Adz,H',⟨by have:=HJ3.out;first|omega|exact Nat.le_refl _⟩,⟨by (with_reducible repeat first|apply Jx|apply A7|apply K0);exact BK101.out⟩,⟨by (with_reducible repeat first|apply Jx|apply A7|apply K0);exact BK102.out⟩,⟨by (with_reducible repeat first|apply Jx|apply A7|apply K0);exact BK103.out⟩,⟨by repeat first|(with_reducible first|exact HB.out|apply zA|apply zN|apply z1|refine zS ?_ GE101.out|refine zS ?_ GE102.out|refine zS ?_ GE103.out)|exact HB.out⟩⟩
      ·rw [if_neg c49] at H
       have c49b0:(x0_3 == 8) = false:=beq_eq_false_iff_ne.mpr c49
       have c49b1:(x0_3 != 8) = true:=bne_iff_ne.mpr c49
       have H':=z_ H
       clear H
       go_wp2
       go_meet
       case rel=>exact ⟨_,(true),Adz,H',⟨by have:=HJ3.out;first|omega|exact Nat.le_refl _⟩,⟨by (with_reducible repeat first|apply Jx|apply A7|apply K0);exact BK101.out⟩,⟨by (with_reducible repeat first|apply Jx|apply A7|apply K0);exact BK102.out⟩,⟨by (with_reducible repeat first|apply Jx|apply A7|apply K0);exact BK103.out⟩,⟨by repeat first|(with_reducible first|exact HB.out|apply zA|apply zN|apply z1|refine zS ?_ GE101.out|refine zS ?_ GE102.out|refine zS ?_ GE103.out)|exact HB.out⟩⟩
   case rest =>
    clear HC18
    try clear c1
    try clear c2
    try clear p2
    try clear c3
    try clear c4
    try clear c5
    try clear c6
    try clear c8
    try clear c8b0
    try clear c8b1
    try clear c19
    try clear c19b0
    try clear c19b1
    try clear c21
    try clear c23
    try clear c24
    try clear c27
    try clear c30
    try clear c31
    try clear c34
    try clear c34b0
    try clear c34b1
    try clear c36
    try clear c38
    try clear c39
    try clear c42
    try clear c45
    try clear c46
    try clear c49
    try clear c49b0
    try clear c49b1
    try clear c51
    try clear c53
    try clear c54
    try clear c57
    try clear c60
    try clear c61
    try clear hcz25_0
    try clear hcz25_1
    try clear hcz25_2
    try clear hcz25_3
    try clear hcz28_0
    try clear hcz28_1
    try clear hcz28_2
    try clear hcz28_3
    try clear hcz32_0
    try clear hcz32_1
    try clear hcz32_2
    try clear hcz32_3
    try clear hcz40_0
    try clear hcz40_1
    try clear hcz40_2
    try clear hcz40_3
    try clear hcz43_0
    try clear hcz43_1
    try clear hcz43_2
    try clear hcz43_3
    try clear hcz47_0
    try clear hcz47_1
    try clear hcz47_2
    try clear hcz47_3
    try clear hcz55_0
    try clear hcz55_1
    try clear hcz55_2
    try clear hcz55_3
    try clear hcz58_0
    try clear hcz58_1
    try clear hcz58_2
    try clear hcz58_3
    try clear hcz62_0
    try clear hcz62_1
    try clear hcz62_2
    try clear hcz62_3
    try clear hfz25_0
    try clear hfz25_1
    try clear hfz25_2
    try clear hfz25_3
    try clear hfz28_0
    try clear hfz28_1
    try clear hfz28_2
    try clear hfz28_3
    try clear hfz32_0
    try clear hfz32_1
    try clear hfz32_2
    try clear hfz32_3
    try clear hfz40_0
    try clear hfz40_1
    try clear hfz40_2
    try clear hfz40_3
    try clear hfz43_0
    try clear hfz43_1
    try clear hfz43_2
    try clear hfz43_3
    try clear hfz47_0
    try clear hfz47_1
    try clear hfz47_2
    try clear hfz47_3
    try clear hfz55_0
    try clear hfz55_1
    try clear hfz55_2
    try clear hfz55_3
    try clear hfz58_0
    try clear hfz58_1
    try clear hfz58_2
    try clear hfz58_3
    try clear hfz62_0
    try clear hfz62_1
    try clear hfz62_2
    try clear hfz62_3
    try clear p2
    obtain ⟨kq,x17_17,rfl,HA,HJ17,BK101,BK102,BK103,HB⟩:=hcut
    cases kq with
    | zero=>exact absurd HA.out (by simp [Ad5.j1])
    | succ kj17 =>
     have H:=HA.out
     clear HA
     simp only [Ad5.j1] at H
     by_cases c64:x17_17 = true
     ·subst c64
      have H1:(some (0,0,0,(⟨#[]⟩:ByteArray),5)) = some (r1,r2,r3,r4,r5):=by rw [if_pos rfl] at H;exact H
      clear H
      have H:=H1
      clear H1
      simp only [Option.some.injEq,Prod.mk.injEq] at H
      obtain ⟨rfl,rfl,rfl,rfl,rfl⟩:=H
      have hnb65:=NB103_101.out
      have hnc65:=NB101_103.out
      have hnb66:=NB103_102.out
      have hnc66:=NB102_103.out
      obtain ⟨_,_,_,_,_,_,_,_⟩:=Rr BK103.out
      go_wp2
      refine bodyPost_ret (results_ct rfl _ _ gb103 28 #[.int .i64 0, .int .i64 0, .int .i64 0, .string (⟨#[]⟩:ByteArray)] (0,0) _ rfl zp6 Try.underlying28 rfl (by kernel_rfl)) rfl ?_
      exact ⟨by first|rfl|(simp [errW_none,errW_some] <;> rfl)|(simp [*,errW_none,errW_some] <;> rfl),by repeat first|(with_reducible first|exact HB.out|apply zA|apply zN|apply z1|refine zS ?_ GE101.out|refine zS ?_ GE102.out|refine zS ?_ GE103.out)|exact HB.out⟩
     ·replace c64:=Bool.eq_false_iff.mpr c64
      subst c64
      have H1:(if x102000_3 = 0 then (Ad5.j2 kj17 x0_3 true x102000_3 x102001_3 x102002_3 x102003_3 x103000_3 x103001_3 x103002_3 x103003_3) else (Ad5.j2 kj17 x0_3 (x103000_3 == 0) x102000_3 x102001_3 x102002_3 x102003_3 x103000_3 x103001_3 x103002_3 x103003_3)) = some (r1,r2,r3,r4,r5):=by rw [if_neg (show ¬ (false = true) by decide)] at H;exact H
      clear H
      have H:=H1
      clear H1
      have HC68:=z_ H
      clear H
      go_upto_region 5 with (fail)
      go_cut [39] (fun v39 wc=>∃ (kq:Nat) (x39_67:Bool),v39 = .bool x39_67 ∧ Aside0 (Ad5.j2 kq x0_3 x39_67 x102000_3 x102001_3 x102002_3 x102003_3 x103000_3 x103001_3 x103002_3 x103003_3 = some (r1,r2,r3,r4,r5)) ∧ Aside0 (kq ≤ kj17) ∧ Aside0 (wc.heap[gb101]? = some (.cells #[.int .i64 x102000_3, .int .i64 x102001_3, .int .i64 x102002_3, .string x102003_3] 28 (0,0))) ∧ Aside0 (wc.heap[gb102]? = some (.cells #[.int .i64 x103000_3, .int .i64 x103001_3, .int .i64 x103002_3, .string x103003_3] 28 (0,0))) ∧ Aside0 (wc.heap[gb103]? = some (.cells #[.int .i64 0, .int .i64 0, .int .i64 0, .string (⟨#[]⟩:ByteArray)] 28 (0,0))) ∧ Aside0 (Below w.heap.size w wc))
      case first =>
       have H:=HC68.out
       clear HC68
       by_cases c69:x102000_3 = 0
       ·rw [if_pos c69] at H
        have c69b0:(x102000_3 == 0) = true:=beq_iff_eq.mpr c69
        have c69b1:(x102000_3 != 0) = false:=bne_eq_false_iff_eq.mpr c69
        clear c69
        (first|rw [c69b0]|(simp only [i64_w,i32_w];rw [c69b0])|skip)
        have H':=z_ H
        clear H
        have hnb70:=NB101_102.out
        have hnc70:=NB102_101.out
        have hnb71:=NB101_103.out
        have hnc71:=NB103_101.out
        obtain ⟨_,_,_,_,_,_,_,_⟩:=Rr BK101.out
        go_wp2
        go_meet
        case rel=>exact ⟨_,(true),Adz,H',⟨by have:=HJ3.out;have:=HJ17.out;first|omega|exact Nat.le_refl _⟩,⟨by (with_reducible repeat first|apply Jx|apply A7|apply K0);exact BK101.out⟩,⟨by (with_reducible repeat first|apply Jx|apply A7|apply K0);exact BK102.out⟩,⟨by (with_reducible repeat first|apply Jx|apply A7|apply K0);exact BK103.out⟩,⟨by repeat first|(with_reducible first|exact HB.out|apply zA|apply zN|apply z1|refine zS ?_ GE101.out|refine zS ?_ GE102.out|refine zS ?_ GE103.out)|exact HB.out⟩⟩
       ·rw [if_neg c69] at H
        have c69b0:(x102000_3 == 0) = false:=beq_eq_false_iff_ne.mpr c69
        have c69b1:(x102000_3 != 0) = true:=bne_iff_ne.mpr c69
        (first|rw [c69b0]|(simp only [i64_w,i32_w];rw [c69b0])|skip)
        have H':=z_ H
        clear H
        have hnb73:=NB101_102.out
        have hnc73:=NB102_101.out
        have hnb74:=NB101_103.out
        have hnc74:=NB103_101.out
        obtain ⟨_,_,_,_,_,_,_,_⟩:=Rr BK101.out
        have hnb76:=NB102_103.out
        have hnc76:=NB103_102.out
        obtain ⟨_,_,_,_,_,_,_,_⟩:=Rr BK102.out
        go_wp2
        go_meet
        case rel=>exact ⟨_,((x103000_3 == 0)),Adz,H',⟨by have:=HJ3.out;have:=HJ17.out;first|omega|exact Nat.le_refl _⟩,⟨by (with_reducible repeat first|apply Jx|apply A7|apply K0);exact BK101.out⟩,⟨by (with_reducible repeat first|apply Jx|apply A7|apply K0);exact BK102.out⟩,⟨by (with_reducible repeat first|apply Jx|apply A7|apply K0);exact BK103.out⟩,⟨by repeat first|(with_reducible first|exact HB.out|apply zA|apply zN|apply z1|refine zS ?_ GE101.out|refine zS ?_ GE102.out|refine zS ?_ GE103.out)|exact HB.out⟩⟩
      case rest =>
       clear HC68
       try clear c1
       try clear c2
       try clear p2
       try clear c3
       try clear c4
       try clear c5
       try clear c6
       try clear c7
       try clear c8
       try clear c8b0
       try clear c8b1
       try clear c19
       try clear c19b0
       try clear c19b1
       try clear c21
       try clear c23
       try clear c24
       try clear c27
       try clear c30
       try clear c31
       try clear c34
       try clear c34b0
       try clear c34b1
       try clear c36
       try clear c38
       try clear c39
       try clear c42
       try clear c45
       try clear c46
       try clear c49
       try clear c49b0
       try clear c49b1
       try clear c51
       try clear c53
       try clear c54
       try clear c57
       try clear c60
       try clear c61
       try clear c64
       try clear c65
       try clear c66
       try clear c69
       try clear c69b0
       try clear c69b1
       try clear c70
       try clear c71
       try clear c73
       try clear c74
       try clear c76
       try clear hcz25_0
       try clear hcz25_1
       try clear hcz25_2
       try clear hcz25_3
       try clear hcz28_0
       try clear hcz28_1
       try clear hcz28_2
       try clear hcz28_3
       try clear hcz32_0
       try clear hcz32_1
       try clear hcz32_2
       try clear hcz32_3
       try clear hcz40_0
       try clear hcz40_1
       try clear hcz40_2
       try clear hcz40_3
       try clear hcz43_0
       try clear hcz43_1
       try clear hcz43_2
       try clear hcz43_3
       try clear hcz47_0
       try clear hcz47_1
       try clear hcz47_2
       try clear hcz47_3
       try clear hcz55_0
       try clear hcz55_1
       try clear hcz55_2
       try clear hcz55_3
       try clear hcz58_0
       try clear hcz58_1
       try clear hcz58_2
       try clear hcz58_3
       try clear hcz62_0
       try clear hcz62_1
       try clear hcz62_2
       try clear hcz62_3
       try clear hcz67_0
       try clear hcz67_1
       try clear hcz67_2
       try clear hcz67_3
       try clear hcz72_0
       try clear hcz72_1
       try clear hcz72_2
       try clear hcz72_3
       try clear hcz75_0
       try clear hcz75_1
       try clear hcz75_2
       try clear hcz75_3
       try clear hcz77_0
       try clear hcz77_1
       try clear hcz77_2
       try clear hcz77_3
       try clear hfz25_0
       try clear hfz25_1
       try clear hfz25_2
       try clear hfz25_3
       try clear hfz28_0
       try clear hfz28_1
       try clear hfz28_2
       try clear hfz28_3
       try clear hfz32_0
       try clear hfz32_1
       try clear hfz32_2
       try clear hfz32_3
       try clear hfz40_0
       try clear hfz40_1
       try clear hfz40_2
       try clear hfz40_3
       try clear hfz43_0
       try clear hfz43_1
       try clear hfz43_2
       try clear hfz43_3
       try clear hfz47_0
       try clear hfz47_1
       try clear hfz47_2
       try clear hfz47_3
       try clear hfz55_0
       try clear hfz55_1
       try clear hfz55_2
       try clear hfz55_3
       try clear hfz58_0
       try clear hfz58_1
       try clear hfz58_2
       try clear hfz58_3
       try clear hfz62_0
       try clear hfz62_1
       try clear hfz62_2
       try clear hfz62_3
       try clear hfz67_0
       try clear hfz67_1
       try clear hfz67_2
       try clear hfz67_3
       try clear hfz72_0
       try clear hfz72_1
       try clear hfz72_2
       try clear hfz72_3
       try clear hfz75_0
       try clear hfz75_1
       try clear hfz75_2
       try clear hfz75_3
       try clear hfz77_0
       try clear hfz77_1
       try clear hfz77_2
       try clear hfz77_3
       try clear p2
       obtain ⟨kq,x39_67,rfl,HA,HJ67,BK101,BK102,BK103,HB⟩:=hcut
       cases kq with
       | zero=>exact absurd HA.out (by simp [Ad5.j2])
       | succ kj67 =>
        have H:=HA.out
        clear HA
        simp only [Ad5.j2] at H
        by_cases c78:x39_67 = true
        ·subst c78
         have H1:(some (0,0,0,(⟨#[]⟩:ByteArray),0)) = some (r1,r2,r3,r4,r5):=by rw [if_pos rfl] at H;exact H
         clear H
         have H:=H1
         clear H1
         simp only [Option.some.injEq,Prod.mk.injEq] at H
         obtain ⟨rfl,rfl,rfl,rfl,rfl⟩:=H
         have hnb79:=NB103_101.out
         have hnc79:=NB101_103.out
         have hnb80:=NB103_102.out
         have hnc80:=NB102_103.out
         obtain ⟨_,_,_,_,_,_,_,_⟩:=Rr BK103.out
         go_wp2
         refine bodyPost_ret (results_ct rfl _ _ gb103 28 #[.int .i64 0, .int .i64 0, .int .i64 0, .string (⟨#[]⟩:ByteArray)] (0,0) _ rfl zp6 Try.underlying28 rfl (by kernel_rfl)) rfl ?_
         exact ⟨by first|rfl|(simp [errW_none,errW_some] <;> rfl)|(simp [*,errW_none,errW_some] <;> rfl),by repeat first|(with_reducible first|exact HB.out|apply zA|apply zN|apply z1|refine zS ?_ GE101.out|refine zS ?_ GE102.out|refine zS ?_ GE103.out)|exact HB.out⟩
        ·replace c78:=Bool.eq_false_iff.mpr c78
         subst c78
         have H1:(if x102000_3 = x103000_3 then ((A2b.f kj67 x102000_3 x0_3 x102000_3 x102001_3 x102002_3 x102003_3 x103000_3 x103001_3 x103002_3 x103003_3).bind fun bt110=>(if bt110.2.2.2.2 = true then (some (bt110.1,bt110.2.1,bt110.2.2.1,bt110.2.2.2.1,0)) else (some (0,0,0,(⟨#[]⟩:ByteArray),10)))) else (some (0,0,0,(⟨#[]⟩:ByteArray),5))) = some (r1,r2,r3,r4,r5):=by rw [if_neg (show ¬ (false = true) by decide)] at H;exact H
         clear H
         have H:=H1
         clear H1
         by_cases c82:x102000_3 = x103000_3
         ·rw [if_pos c82] at H
          have c82b0:(x102000_3 == x103000_3) = true:=beq_iff_eq.mpr c82
          have c82b1:(x102000_3 != x103000_3) = false:=bne_eq_false_iff_eq.mpr c82
          clear c82
          replace H:=Option.bind_eq_some_iff.mp H
          obtain ⟨⟨t110,t111,t112,t113,t114⟩,A830,H⟩:=H
          replace H:(if t114 = true then (some (t110,t111,t112,t113,0)) else (some (0,0,0,(⟨#[]⟩:ByteArray),10))) = some (r1,r2,r3,r4,r5):=H
          have A83:=z_ A830
          clear A830
          by_cases c84:t114 = true
          ·subst c84
           have H1:(some (t110,t111,t112,t113,0)) = some (r1,r2,r3,r4,r5):=by rw [if_pos rfl] at H;exact H
           clear H
           have H:=H1
           clear H1
           simp only [Option.some.injEq,Prod.mk.injEq] at H
           obtain ⟨rfl,rfl,rfl,rfl,rfl⟩:=H
           have hnb85:=NB101_102.out
           have hnc85:=NB102_101.out
           have hnb86:=NB101_103.out
           have hnc86:=NB103_101.out
           obtain ⟨_,_,_,_,_,_,_,_⟩:=Rr BK101.out
           have hnb88:=NB102_103.out
           have hnc88:=NB103_102.out
           obtain ⟨_,_,_,_,_,_,_,_⟩:=Rr BK102.out
           go_wp2_with (first|((with_reducible refine gate_dyn (c:=.tmp 61) rfl ?_);refine goesLd_ (some 65) rfl rfl Try.func74 (by kernel_rfl) rfl #[.agg #[.int .i64 x102000_3], .int .i64 x0_3, .agg #[.int .i64 x102000_3, .int .i64 x102001_3, .int .i64 x102002_3, .string x102003_3], .agg #[.int .i64 x103000_3, .int .i64 x103001_3, .int .i64 x103002_3, .string x103003_3]] rfl rfl W4 ?_;(with_reducible refine (A2b.calls kj67 x102000_3 x0_3 x102000_3 x102001_3 x102002_3 x102003_3 x103000_3 x103001_3 x103002_3 x103003_3 t110 t111 t112 t113 true _ A83.out).mono ?_);rintro e w90 ⟨rfl,hb⟩;refine ⟨_,rfl,?_⟩;replace BK101:=z_ (zk BK101.out hb);replace BK102:=z_ (zk BK102.out hb);replace BK103:=z_ (zk BK103.out hb);replace HB:=z_ (below_step zp3 hb);(try clear hb);(try clear hb2);(try clear hk);(try clear hi))|((with_reducible refine gate_dst (N:=9) rfl ?_);refine box_event (by rfl) (N:=9) (by rfl) (cs:=#[.int .i64 0, .int .i64 0, .int .i64 0, .string (⟨#[]⟩:ByteArray)]) (t:=28) W3 ?_;intro gb115 hg w91 hbox hb;have BK115:=z_ (hbox);have GW115:=z_ ((Aes:w.heap.size ≤ gb115));have GE115:=z_ ((Aes:w.heap.size ≤ gb115));replace HB:=z_ (below_step zp3 hb);have NB101_115:=z_ ((A6w:gb101 ≠ gb115));have NB115_101:=z_ ((A6s:gb115 ≠ gb101));replace BK101:=z_ (zk BK101.out hb);have NB102_115:=z_ ((A6q:gb102 ≠ gb115));have NB115_102:=z_ ((A6o:gb115 ≠ gb102));replace BK102:=z_ (zk BK102.out hb);have NB103_115:=z_ ((A07:gb103 ≠ gb115));have NB115_103:=z_ ((A08:gb115 ≠ gb103));replace BK103:=z_ (zk BK103.out hb);clear hb hbox hg;have hnb92:=NB115_101.out;have hnc92:=NB101_115.out;have hnb93:=NB115_102.out;have hnc93:=NB102_115.out;have hnb94:=NB115_103.out;have hnc94:=NB103_115.out;obtain ⟨_,_,_,_,_,_,_,_⟩:=Rr BK115.out;obtain ⟨_,_,_,_,_,_,_,_⟩:=Rr BK103.out))
           refine bodyPost_ret (results_ct rfl _ _ gb103 28 #[.int .i64 t110, .int .i64 t111, .int .i64 t112, .string t113] (0,0) _ rfl (by (with_reducible repeat first|apply Jx|apply A7|apply K0);refine Tt (cs:=#[.int .i64 t110, .int .i64 t111, .int .i64 t112, .string (⟨#[]⟩:ByteArray)]) ?_ 3 _ rfl;(with_reducible repeat first|apply Jx|apply A7|apply K0);refine Tt (cs:=#[.int .i64 t110, .int .i64 t111, .int .i64 0, .string (⟨#[]⟩:ByteArray)]) ?_ 2 _ rfl;(with_reducible repeat first|apply Jx|apply A7|apply K0);refine Tt (cs:=#[.int .i64 t110, .int .i64 0, .int .i64 0, .string (⟨#[]⟩:ByteArray)]) ?_ 1 _ rfl;(with_reducible repeat first|apply Jx|apply A7|apply K0);refine Tt (cs:=#[.int .i64 0, .int .i64 0, .int .i64 0, .string (⟨#[]⟩:ByteArray)]) ?_ 0 _ rfl;(with_reducible repeat first|apply Jx|apply A7|apply K0);refine S0 ?_ NB103_115.out _;(with_reducible repeat first|apply Jx|apply A7|apply K0);refine S0 ?_ NB103_115.out _;(with_reducible repeat first|apply Jx|apply A7|apply K0);refine S0 ?_ NB103_115.out _;(with_reducible repeat first|apply Jx|apply A7|apply K0);refine S0 ?_ NB103_115.out _;(with_reducible repeat first|apply Jx|apply A7|apply K0);exact BK103.out) Try.underlying28 rfl (by kernel_rfl)) rfl ?_
           exact ⟨by first|rfl|(simp [errW_none,errW_some] <;> rfl)|(simp [*,errW_none,errW_some] <;> rfl),by repeat first|(with_reducible first|exact HB.out|apply zA|apply zN|apply z1|refine zS ?_ GE101.out|refine zS ?_ GE102.out|refine zS ?_ GE103.out|refine zS ?_ GE115.out)|exact HB.out⟩
          ·replace c84:=Bool.eq_false_iff.mpr c84
           subst c84
           have H1:(some (0,0,0,(⟨#[]⟩:ByteArray),10)) = some (r1,r2,r3,r4,r5):=by rw [if_neg (show ¬ (false = true) by decide)] at H;exact H
           clear H
           have H:=H1
           clear H1
           simp only [Option.some.injEq,Prod.mk.injEq] at H
           obtain ⟨rfl,rfl,rfl,rfl,rfl⟩:=H
           have hnb97:=NB101_102.out
           have hnc97:=NB102_101.out
           have hnb98:=NB101_103.out
           have hnc98:=NB103_101.out
           obtain ⟨_,_,_,_,_,_,_,_⟩:=Rr BK101.out
           have hnb100:=NB102_103.out
           have hnc100:=NB103_102.out
           obtain ⟨_,_,_,_,_,_,_,_⟩:=Rr BK102.out
           go_wp2_with (first|((with_reducible refine gate_dyn (c:=.tmp 61) rfl ?_);refine goesLd_ (some 65) rfl rfl Try.func74 (by kernel_rfl) rfl #[.agg #[.int .i64 x102000_3], .int .i64 x0_3, .agg #[.int .i64 x102000_3, .int .i64 x102001_3, .int .i64 x102002_3, .string x102003_3], .agg #[.int .i64 x103000_3, .int .i64 x103001_3, .int .i64 x103002_3, .string x103003_3]] rfl rfl W4 ?_;(with_reducible refine (A2b.calls kj67 x102000_3 x0_3 x102000_3 x102001_3 x102002_3 x102003_3 x103000_3 x103001_3 x103002_3 x103003_3 t110 t111 t112 t113 false _ A83.out).mono ?_);rintro e w102 ⟨rfl,hb⟩;refine ⟨_,rfl,?_⟩;replace BK101:=z_ (zk BK101.out hb);replace BK102:=z_ (zk BK102.out hb);replace BK103:=z_ (zk BK103.out hb);replace HB:=z_ (below_step zp3 hb);(try clear hb);(try clear hb2);(try clear hk);(try clear hi))|((with_reducible refine gate_dst (N:=9) rfl ?_);refine box_event (by rfl) (N:=9) (by rfl) (cs:=#[.int .i64 0, .int .i64 0, .int .i64 0, .string (⟨#[]⟩:ByteArray)]) (t:=28) W3 ?_;intro gb115 hg w103 hbox hb;have BK115:=z_ (hbox);have GW115:=z_ ((Aes:w.heap.size ≤ gb115));have GE115:=z_ ((Aes:w.heap.size ≤ gb115));replace HB:=z_ (below_step zp3 hb);have NB101_115:=z_ ((A6w:gb101 ≠ gb115));have NB115_101:=z_ ((A6s:gb115 ≠ gb101));replace BK101:=z_ (zk BK101.out hb);have NB102_115:=z_ ((A6q:gb102 ≠ gb115));have NB115_102:=z_ ((A6o:gb115 ≠ gb102));replace BK102:=z_ (zk BK102.out hb);have NB103_115:=z_ ((A07:gb103 ≠ gb115));have NB115_103:=z_ ((A08:gb115 ≠ gb103));replace BK103:=z_ (zk BK103.out hb);clear hb hbox hg;have hnb104:=NB115_101.out;have hnc104:=NB101_115.out;have hnb105:=NB115_102.out;have hnc105:=NB102_115.out;have hnb106:=NB115_103.out;have hnc106:=NB103_115.out;obtain ⟨_,_,_,_,_,_,_,_⟩:=Rr BK115.out;obtain ⟨_,_,_,_,_,_,_,_⟩:=Rr BK103.out))
           refine bodyPost_ret (results_ct rfl _ _ gb103 28 #[.int .i64 0, .int .i64 0, .int .i64 0, .string (⟨#[]⟩:ByteArray)] (0,0) _ rfl (by (with_reducible repeat first|apply Jx|apply A7|apply K0);refine Tt (cs:=#[.int .i64 0, .int .i64 0, .int .i64 0, .string (⟨#[]⟩:ByteArray)]) ?_ 3 _ rfl;(with_reducible repeat first|apply Jx|apply A7|apply K0);refine Tt (cs:=#[.int .i64 0, .int .i64 0, .int .i64 0, .string (⟨#[]⟩:ByteArray)]) ?_ 2 _ rfl;(with_reducible repeat first|apply Jx|apply A7|apply K0);refine Tt (cs:=#[.int .i64 0, .int .i64 0, .int .i64 0, .string (⟨#[]⟩:ByteArray)]) ?_ 1 _ rfl;(with_reducible repeat first|apply Jx|apply A7|apply K0);refine Tt (cs:=#[.int .i64 0, .int .i64 0, .int .i64 0, .string (⟨#[]⟩:ByteArray)]) ?_ 0 _ rfl;(with_reducible repeat first|apply Jx|apply A7|apply K0);refine S0 ?_ NB103_115.out _;(with_reducible repeat first|apply Jx|apply A7|apply K0);refine S0 ?_ NB103_115.out _;(with_reducible repeat first|apply Jx|apply A7|apply K0);refine S0 ?_ NB103_115.out _;(with_reducible repeat first|apply Jx|apply A7|apply K0);refine S0 ?_ NB103_115.out _;(with_reducible repeat first|apply Jx|apply A7|apply K0);exact BK103.out) Try.underlying28 rfl (by kernel_rfl)) rfl ?_
           exact ⟨by first|rfl|(simp [errW_none,errW_some] <;> rfl)|(simp [*,errW_none,errW_some] <;> rfl),by repeat first|(with_reducible first|exact HB.out|apply zA|apply zN|apply z1|refine zS ?_ GE101.out|refine zS ?_ GE102.out|refine zS ?_ GE103.out|refine zS ?_ GE115.out)|exact HB.out⟩
         ·rw [if_neg c82] at H
          have c82b0:(x102000_3 == x103000_3) = false:=beq_eq_false_iff_ne.mpr c82
          have c82b1:(x102000_3 != x103000_3) = true:=bne_iff_ne.mpr c82
          simp only [Option.some.injEq,Prod.mk.injEq] at H
          obtain ⟨rfl,rfl,rfl,rfl,rfl⟩:=H
          have hnb109:=NB101_102.out
          have hnc109:=NB102_101.out
          have hnb110:=NB101_103.out
          have hnc110:=NB103_101.out
          obtain ⟨_,_,_,_,_,_,_,_⟩:=Rr BK101.out
          have hnb112:=NB102_103.out
          have hnc112:=NB103_102.out
          obtain ⟨_,_,_,_,_,_,_,_⟩:=Rr BK102.out
          obtain ⟨_,_,_,_,_,_,_,_⟩:=Rr BK103.out
          go_wp2
          refine bodyPost_ret (results_ct rfl _ _ gb103 28 #[.int .i64 0, .int .i64 0, .int .i64 0, .string (⟨#[]⟩:ByteArray)] (0,0) _ rfl zp6 Try.underlying28 rfl (by kernel_rfl)) rfl ?_
          exact ⟨by first|rfl|(simp [errW_none,errW_some] <;> rfl)|(simp [*,errW_none,errW_some] <;> rfl),by repeat first|(with_reducible first|exact HB.out|apply zA|apply zN|apply z1|refine zS ?_ GE101.out|refine zS ?_ GE102.out|refine zS ?_ GE103.out)|exact HB.out⟩
end Go.Proofs.Ytglffgneikoeaaa.M
namespace Go.Proofs.Ytglffgneikoeaaa.M
open Go.RowKit Go.Proofs.YtglffgneikoeaaaW.PrintWords Go.Proofs.YtglffgneikoeaaaW.PrintLast Go.Proofs.YtglffgneikoeaaaW.PrintMore
attribute [local go_sem] max2_int min2_int max_two min_two max_three min_three max_four min_four
attribute [local go_sem high] own_gtr own_leq own_geq own_cell_set Option.map_some
set_option linter.unusedVariables false
set_option linter.unusedSimpArgs false
def overR:Int × Int × Int × ByteArray × Int:=(0,0,0,(⟨#[]⟩:ByteArray),10)
def typeR:Int × Int × Int × ByteArray × Int:=(0,0,0,(⟨#[]⟩:ByteArray),5)
def nullR:Int × Int × Int × ByteArray × Int:=(0,0,0,(⟨#[]⟩:ByteArray),0)
def sgn (op:Int):Int:=if op=7 then 1 else -1
def decsRes (op n1:Int) (s1:Nat) (n2:Int) (s2:Nat):Int × Int × Int × ByteArray × Int :=
 if op=6 then (if inI (n1*n2)=true then decRes (n1*n2) (s1+s2) else overR) else decRes (n1*p10 (6 - s1)+sgn op*(n2*p10 (6 - s2))) 6
structure RD (n:Int) (s:Nat):Prop where
 lo : -1000000000000000 < n
 hi:n < 1000000000000000
 sc:s≤6
 nm:s=0∨n % 10≠0
theorem decRes_big (n:Int) (s:Nat) (h:s=0∨n % 10≠0) (hb:1000000000000000≤n∨n≤-1000000000000000):decRes n s=overR:=by
 unfold decRes;rw [red_same n s h,if_neg (by omega)];rfl
theorem mul_p10_mod (n:Int) (j:Nat) (h:0 < j):n*p10 j % 10=0:=by
 obtain ⟨i,rfl⟩:∃ i,j=i+1:=⟨j - 1,by omega⟩
 rw [p10_succ,← Int.mul_assoc];omega
theorem exactly_sgn (op a b:Int) (h:op≠6):exactly op a b=a+sgn op*b:=by
 unfold exactly sgn
 rw [if_neg h]
 by_cases h7:op=7
 ·rw [if_pos h7,if_pos h7,Int.one_mul]
 ·rw [if_neg h7,if_neg h7];omega
theorem mxabs (n:Int) (h0 : -9223372036854775808 < n) (h1:n≤9223372036854775807):mx n (wrap64 (-n))=(n.natAbs:Int):=by
 rw [wrap64_of (by omega) (by omega)];unfold mx;split<;>omega
theorem far_div (p:Int) (hp:0 < p) (hp2:p≤1000000):wrap64 (Int.tdiv 4611686018427387904 p)=4611686018427387904 / p:=by
 have h1:0≤(4611686018427387904:Int) / p:=Int.ediv_nonneg (by decide) (by omega)
 have h2:(4611686018427387904:Int) / p≤4611686018427387904:=Int.ediv_le_self _ (by decide)
 rw [Int.tdiv_eq_ediv_of_nonneg (by decide),wrap64_of (by omega) (by omega)]
theorem far_le (p x:Int) (hp:0 < p) (hx:0≤x):x > 4611686018427387904 / p↔x*p > 4611686018427387904 - (4611686018427387904 % p):=by
 have h1:=Int.mul_ediv_add_emod 4611686018427387904 p
 generalize 4611686018427387904 / p=q at *
 generalize 4611686018427387904 % p=r at *
 constructor
 ·intro h
  have:=Int.mul_lt_mul_of_pos_right h hp
  rw [Int.mul_comm q p] at this
  omega
 ·intro h
  have h2:q*p < x*p:=by rw [Int.mul_comm q p];omega
  exact Int.lt_of_mul_lt_mul_right h2 (by omega)
theorem A7l (k:Nat) (op n1:Int) (s1:Nat) (t1:ByteArray) (n2:Int) (s2:Nat) (t2:ByteArray) (k1 k2:Int) (hk:70 < k) (h1:RD n1 s1) (h2:RD n2 s2) :
  ∃ v1 v2 v3 v4,∃ b:Bool,Aec.f k op k1 n1 (s1:Int) t1 k2 n2 (s2:Int) t2=some (v1,v2,v3,v4,b)∧(if b=true then (v1,v2,v3,v4,(0:Int)) else overR)=decsRes op n1 s1 n2 s2:=by
 have b1:=h1.lo;have b2:=h1.hi;have b3:=h1.sc
 have c1:=h2.lo;have c2:=h2.hi;have c3:=h2.sc
 have fin:∀ (n:Int) (s:Nat),(if (decide (-1000000000000000 < (red n s).1∧(red n s).1 < 1000000000000000∧(red n s).2≤6))=true then ((3:Int),(red n s).1,((red n s).2:Int),(⟨#[]⟩:ByteArray),(0:Int)) else overR)=decRes n s:=by
  intro n s;unfold decRes overR;simp only [decide_eq_true_eq]
 unfold Aec.f decsRes
 by_cases h6:op=6
 ·rw [if_pos h6,if_pos h6,A4e op n1 n2 ⟨by omega,by omega⟩ ⟨by omega,by omega⟩]
  have he:exactly op n1 n2=n1*n2:=by unfold exactly;rw [if_pos h6]
  simp only [Option.bind_some,he]
  rw [wrap64_of (x:=(s1:Int)+(s2:Int)) (by omega) (by omega),show (s1:Int)+(s2:Int)=((s1+s2:Nat):Int) by omega]
  have hw:I64 (wrap64 (n1*n2)):=by unfold I64 wrap64;omega
  refine ⟨_,_,_,_,_,A56 k (wrap64 (n1*n2)) (s1+s2) (inI (n1*n2)) (by omega) (by omega) hw,?_⟩
  cases hi:inI (n1*n2) with
  | false=>simp
  | true =>
   rw [wrap64_inI _ hi,Bool.true_and,if_pos rfl]
   exact fin _ _
 ·rw [if_neg h6,if_neg h6]
  unfold A1e.f
  obtain ⟨m,hm,hm1,hm2⟩:∃ m:Nat,m≤6∧s1≤m∧s2≤m∧mx (s1:Int) (s2:Int)=(m:Int)∧(m=s1∨m=s2):=by
   refine ⟨max s1 s2,by omega,by omega,by omega,?_,by omega⟩
   unfold mx;split<;>omega
  obtain ⟨hm2,hmx,hmo⟩:=hm2
  rw [hmx,show (m:Int) - (s1:Int)=((m - s1:Nat):Int) by omega,show (m:Int) - (s2:Int)=((m - s2:Nat):Int) by omega]
  rw [wrap64_of (x:=((m - s1:Nat):Int)) (by omega) (by omega),wrap64_of (x:=((m - s2:Nat):Int)) (by omega) (by omega)]
  rw [A2u k _ (by omega) (by omega),A2u k _ (by omega) (by omega)]
  simp only [Option.bind_some]
  have hp:=p10_pos (m - s1)
  have hq:=p10_pos (m - s2)
  have hp2:p10 (m - s1)≤1000000:=by have:=p10_mono (show m - s1≤6 by omega);rw [p10_six] at this;exact this
  have hq2:p10 (m - s2)≤1000000:=by have:=p10_mono (show m - s2≤6 by omega);rw [p10_six] at this;exact this
  rw [mxabs n1 (by omega) (by omega),mxabs n2 (by omega) (by omega),far_div _ hp hp2,far_div _ hq hq2]
  rw [if_neg (show ¬ p10 (m - s1)=0 by omega)]
  have hspec:decRes (n1*p10 (6 - s1)+sgn op*(n2*p10 (6 - s2))) 6=decRes (n1*p10 (m - s1)+sgn op*(n2*p10 (m - s2))) m:=by
   have e1:p10 (6 - s1)=p10 (m - s1)*p10 (6 - m):=by rw [← p10_add];congr 1;omega
   have e2:p10 (6 - s2)=p10 (m - s2)*p10 (6 - m):=by rw [← p10_add];congr 1;omega
   have e3:n1*p10 (6 - s1)+sgn op*(n2*p10 (6 - s2))=(n1*p10 (m - s1)+sgn op*(n2*p10 (m - s2)))*p10 (6 - m):=by
    rw [e1,e2,Int.add_mul,Int.mul_assoc,Int.mul_assoc,Int.mul_assoc]
   have e4:=decRes_tens (n1*p10 (m - s1)+sgn op*(n2*p10 (m - s2))) (6 - m) m
   rw [show m+(6 - m)=6 by omega] at e4
   rw [e3,e4]
  rw [hspec]
  have hs:sgn op=1∨sgn op = -1:=by unfold sgn;split<;>omega
  have a1:m=s1→n1*p10 (m - s1)=n1:=fun e=>by rw [e,Nat.sub_self,p10_zero,Int.mul_one]
  have a2:m=s2→n2*p10 (m - s2)=n2:=fun e=>by rw [e,Nat.sub_self,p10_zero,Int.mul_one]
  have z1:m≠s1→n1*p10 (m - s1) % 10=0:=fun e=>mul_p10_mod n1 _ (by omega)
  have z2:m≠s2→n2*p10 (m - s2) % 10=0:=fun e=>mul_p10_mod n2 _ (by omega)
  have nm1:=h1.nm
  have nm2:=h2.nm
  have hab1:(n1.natAbs:Int)*p10 (m - s1)=((n1*p10 (m - s1)).natAbs:Int):=by rw [Int.natAbs_mul,Int.natCast_mul,Int.natAbs_of_nonneg (Int.le_of_lt hp)]
  have hab2:(n2.natAbs:Int)*p10 (m - s2)=((n2*p10 (m - s2)).natAbs:Int):=by rw [Int.natAbs_mul,Int.natCast_mul,Int.natAbs_of_nonneg (Int.le_of_lt hq)]
  have f1:=far_le (p10 (m - s1)) n1.natAbs hp (by omega)
  have f2:=far_le (p10 (m - s2)) n2.natAbs hq (by omega)
  rw [hab1] at f1
  rw [hab2] at f2
  have r1:=Int.emod_lt_of_pos 4611686018427387904 hp
  have r2:=Int.emod_lt_of_pos 4611686018427387904 hq
  have r3:=Int.emod_nonneg 4611686018427387904 (show p10 (m - s1)≠0 by omega)
  have r4:=Int.emod_nonneg 4611686018427387904 (show p10 (m - s2)≠0 by omega)
  generalize n1*p10 (m - s1)=x at *
  generalize n2*p10 (m - s2)=y at *
  by_cases g1:(n1.natAbs:Int) > 4611686018427387904 / p10 (m - s1)
  ·rw [if_pos g1]
   refine ⟨0,0,0,_,false,by simp only [Option.bind_some];rfl,?_⟩
   have g2:=f1.1 g1
   rw [if_neg (by decide)]
   symm
   by_cases e1:m=s1
   ·have:=a1 e1;omega
   ·have e2:m=s2:=by omega
    have:=a2 e2
    have:=z1 e1
    rcases hs with hs|hs<;>rw [hs]<;>(apply decRes_big<;>omega)
  rw [if_neg g1,if_neg (show ¬ p10 (m - s2)=0 by omega)]
  have g2:¬ _:=fun h=>g1 (f1.2 h)
  by_cases g3:(n2.natAbs:Int) > 4611686018427387904 / p10 (m - s2)
  ·rw [if_pos g3]
   refine ⟨0,0,0,_,false,by simp only [Option.bind_some];rfl,?_⟩
   have g4:=f2.1 g3
   rw [if_neg (by decide)]
   symm
   by_cases e1:m=s2
   ·have:=a2 e1;omega
   ·have e2:m=s1:=by omega
    have:=a1 e2
    have:=z2 e1
    rcases hs with hs|hs<;>rw [hs]<;>(apply decRes_big<;>omega)
  rw [if_neg g3]
  have g4:¬ _:=fun h=>g3 (f2.2 h)
  simp only [Option.bind_some,if_true]
  rw [wrap64_of (x:=x) (by omega) (by omega),wrap64_of (x:=y) (by omega) (by omega)]
  rw [A4e op x y ⟨by omega,by omega⟩ ⟨by omega,by omega⟩,exactly_sgn op x y h6]
  simp only [Option.bind_some]
  have hin:I64 (x+sgn op*y):=by
   unfold I64
   rcases hmo with e|e
   ·have:=a1 e
    rcases hs with hs|hs<;>rw [hs]<;>omega
   ·have:=a2 e
    rcases hs with hs|hs<;>rw [hs]<;>omega
  have hi:inI (x+sgn op*y)=true:=by unfold inI;rw [decide_eq_true_eq];exact hin
  rw [hi,wrap64_inI _ hi]
  refine ⟨_,_,_,_,_,A56 k (x+sgn op*y) m true (by omega) (by omega) hin,?_⟩
  rw [Bool.true_and]
  exact fin _ _
theorem ediv_small {n p:Int} (hp:0 < p) (h0 : -1000000000000000 < n) (h1:n < 1000000000000000) : -1000000000000000≤n / p∧n / p≤1000000000000000:=by
 have e:=Int.mul_ediv_add_emod n p
 have e1:=Int.emod_lt_of_pos n hp
 have e2:=Int.emod_nonneg n (show p≠0 by omega)
 have e3:=Int.natAbs_ediv_le_natAbs n p
 omega
theorem A7i (k:Nat) (n1:Int) (s1:Nat) (t1:ByteArray) (n2:Int) (s2:Nat) (t2:ByteArray) (k1 k2:Int) (hk:95 < k) (h1:RD n1 s1) (h2:RD n2 s2) :
  A01.f k 6 k1 n1 (s1:Int) t1 k2 n2 (s2:Int) t2=some (decsRes 6 n1 s1 n2 s2):=by
 have b1:=h1.lo;have b2:=h1.hi;have b3:=h1.sc
 have c1:=h2.lo;have c2:=h2.hi;have c3:=h2.sc
 unfold A01.f decsRes
 rw [if_pos rfl,if_pos rfl,A44 n1 n2 ⟨by omega,by omega⟩ ⟨by omega,by omega⟩,Option.bind_some]
 dsimp only
 rw [wrap64_of (x:=(s1:Int)+(s2:Int)) (by omega) (by omega),show (s1:Int)+(s2:Int)=((s1+s2:Nat):Int) by omega]
 have hw:I64 (wrap64 (n1*n2)):=by unfold I64 wrap64;omega
 cases hi:inI (n1*n2) with
 | false =>
  rw [ref_Norm_eq k (s1+s2) _ _ (by omega) (by omega) hw.1 hw.2,Option.bind_some,if_neg (by decide),if_neg (by decide)]
  rfl
 | true =>
  have:=A55 k (wrap64 (n1*n2)) (s1+s2) (by omega) (by omega) hw
  simp only [if_true]
  rw [this,wrap64_inI _ hi]
theorem eta5 (p:Int × Int × Int × ByteArray × Int):some (p.1,p.2.1,p.2.2.1,p.2.2.2.1,p.2.2.2.2)=some p:=rfl
theorem A7j (k:Nat) (op n1:Int) (s1:Nat) (t1:ByteArray) (n2:Int) (s2:Nat) (t2:ByteArray) (k1 k2:Int) (hk:95 < k) (h1:RD n1 s1) (h2:RD n2 s2) (h6:¬ op=6) :
  A01.f k op k1 n1 (s1:Int) t1 k2 n2 (s2:Int) t2=some (decsRes op n1 s1 n2 s2):=by
 have b1:=h1.lo;have b2:=h1.hi;have b3:=h1.sc
 have c1:=h2.lo;have c2:=h2.hi;have c3:=h2.sc
 have g1:=ediv_small (p10_pos s1) b1 b2
 have g2:=ediv_small (p10_pos s2) c1 c2
 have f1:=mic_ediv n1 s1 b3
 have f2:=mic_ediv n2 s2 c3
 have f3:=mic_emod n1 s1 b3
 have f4:=mic_emod n2 s2 c3
 have hP1:=A3a k k1 n1 s1 t1 (by omega) b3 b1 b2
 have hP2:=A3a k k2 n2 s2 t2 (by omega) c3 c1 c2
 rw [← f1,← f3] at hP1
 rw [← f2,← f4] at hP2
 rw [← f1] at g1
 rw [← f2] at g2
 clear f1 f2 f3 f4
 unfold A01.f decsRes sgn
 rw [if_neg h6,if_neg h6,hP1,hP2,Option.bind_some,Option.bind_some]
 dsimp only
 clear hP1 hP2
 generalize n1*p10 (6 - s1)=x at *
 generalize n2*p10 (6 - s2)=y at *
 have q1:=Int.emod_lt_of_pos x (show (0:Int) < 1000000 by decide)
 have q2:=Int.emod_lt_of_pos y (show (0:Int) < 1000000 by decide)
 have q3:=Int.emod_nonneg x (show (1000000:Int)≠0 by decide)
 have q4:=Int.emod_nonneg y (show (1000000:Int)≠0 by decide)
 have e1:=Int.mul_ediv_add_emod x 1000000
 have e2:=Int.mul_ediv_add_emod y 1000000
 generalize x / 1000000=u at *
 generalize y / 1000000=v at *
 generalize x % 1000000=c at *
 generalize y % 1000000=d at *
 by_cases h7:op=7
 ·rw [if_pos h7,if_pos h7,wrap64_of (x:=u+v) (by omega) (by omega),wrap64_of (x:=c+d) (by omega) (by omega)]
  have e:(u+v)*1000000+(c+d)=x+1*y:=by omega
  rw [A5a k _ _ (by omega) (by omega) (by omega) (by omega) (by omega),e,Option.bind_some,eta5]
 ·rw [if_neg h7,if_neg h7,wrap64_of (x:=u - v) (by omega) (by omega),wrap64_of (x:=c - d) (by omega) (by omega)]
  have e:(u - v)*1000000+(c - d)=x+-1*y:=by omega
  rw [A5a k _ _ (by omega) (by omega) (by omega) (by omega) (by omega),e,Option.bind_some,eta5]
theorem A7m (k:Nat) (op n1:Int) (s1:Nat) (t1:ByteArray) (n2:Int) (s2:Nat) (t2:ByteArray) (k1 k2:Int) (hk:95 < k) (h1:RD n1 s1) (h2:RD n2 s2) :
  A01.f k op k1 n1 (s1:Int) t1 k2 n2 (s2:Int) t2=some (decsRes op n1 s1 n2 s2):=by
 by_cases h6:op=6
 ·subst h6;exact A7i k n1 s1 t1 n2 s2 t2 k1 k2 hk h1 h2
 ·exact A7j k op n1 s1 t1 n2 s2 t2 k1 k2 hk h1 h2 h6
def num (kd:Int):Bool:=kd==0||kd==2||kd==3
def reckRes (op k1 n1:Int) (s1:Nat) (k2 n2:Int) (s2:Nat):Int × Int × Int × ByteArray × Int :=
 if (op=6∨op=7∨op=8)∧num k1=true∧num k2=true then
  (if k1=0∨k2=0 then nullR else if k1=k2 then (if k1=2 then intRes op n1 n2 else decsRes op n1 s1 n2 s2) else typeR)
 else typeR
structure RV (kd n:Int) (s:Nat):Prop where
 i:I64 n
 d:kd=3→RD n s
theorem A42 (k:Nat) (op k1 n1:Int) (s1:Nat) (t1:ByteArray) (k2 n2:Int) (s2:Nat) (t2:ByteArray) (hk:100 < k) (h1:RV k1 n1 s1) (h2:RV k2 n2 s2) :
  Ad5.j0 k op k1 n1 (s1:Int) t1 k2 n2 (s2:Int) t2=some (reckRes op k1 n1 s1 k2 n2 s2):=by
 obtain ⟨k,rfl⟩:∃ m,k=m+3:=⟨k - 3,by omega⟩
 have hn:∀ kd n s t,Aek.f kd n s t=some (num kd):=fun kd n s t=>by
  unfold Aek.f num
  by_cases a:kd=0
  ·rw [if_pos a];simp [a]
  ·rw [if_neg a]
   by_cases b:kd=2
   ·rw [if_pos b];simp [b]
   ·rw [if_neg b];simp [a,b]
 have tail:∀ b:Bool,Ad5.j1 (k+2) op b k1 n1 (s1:Int) t1 k2 n2 (s2:Int) t2=some (if b=true then typeR else if k1=0∨k2=0 then nullR else if k1=k2 then (if k1=2 then intRes op n1 n2 else decsRes op n1 s1 n2 s2) else typeR)∨num k1=false∨num k2=false:=by
  intro b
  cases hn1:num k1 with
  | false=>exact Or.inr (Or.inl rfl)
  | true =>
  cases hn2:num k2 with
  | false=>exact Or.inr (Or.inr rfl)
  | true =>
  left
  simp only [Ad5.j1]
  cases b with
  | true=>rfl
  | false =>
  simp only [Bool.false_eq_true,if_false]
  by_cases z1:k1=0
  ·rw [if_pos z1,if_pos (Or.inl z1)];simp only [Ad5.j2,if_true];rfl
  ·rw [if_neg z1]
   simp only [Ad5.j2]
   by_cases z2:k2=0
   ·rw [if_pos (by simpa using z2),if_pos (Or.inr z2)];rfl
   ·rw [if_neg (by simpa using z2),if_neg (show ¬(k1=0∨k2=0) by omega)]
    by_cases e:k1=k2
    ·rw [if_pos e,if_pos e]
     unfold A2b.f
     by_cases e2:k1=2
     ·rw [if_pos e2,if_pos e2]
      unfold A2n.f intRes
      rw [A4e op n1 n2 h1.i h2.i]
      simp only [Option.bind_some]
      by_cases hi:inI (exactly op n1 n2)=true
      ·rw [if_pos hi,if_pos hi,wrap64_inI _ hi]
      ·rw [if_neg hi,if_neg hi]
     ·rw [if_neg e2,if_neg e2]
      have e3:k1=3:=by unfold num at hn1;simp at hn1;omega
      obtain ⟨v1,v2,v3,v4,b,hd,hr⟩:=A7l k op n1 s1 t1 n2 s2 t2 k1 k2 (by omega) (h1.d e3) (h2.d (by omega))
      rw [hd]
      simp only [Option.bind_some]
      rw [← hr]
      cases b<;>rfl
    ·rw [if_neg e,if_neg e];rfl
 have t0:=tail false
 have t1_:=tail true
 have stop:Ad5.j1 (k+2) op true k1 n1 (s1:Int) t1 k2 n2 (s2:Int) t2=some typeR:=by simp only [Ad5.j1,if_true];rfl
 simp only [Ad5.j0,hn,Option.bind_some]
 unfold reckRes
 have both:(if num k1=true then Ad5.j1 (k+2) op (!num k2) k1 n1 (s1:Int) t1 k2 n2 (s2:Int) t2 else Ad5.j1 (k+2) op true k1 n1 (s1:Int) t1 k2 n2 (s2:Int) t2)=some (if num k1=true∧num k2=true then (if k1=0∨k2=0 then nullR else if k1=k2 then (if k1=2 then intRes op n1 n2 else decsRes op n1 s1 n2 s2) else typeR) else typeR):=by
  cases a1:num k1 with
  | false=>simp [stop]
  | true =>
   cases a2:num k2 with
   | false=>simp [stop]
   | true =>
    simp only [if_true,Bool.not_true,and_self]
    rcases t0 with h|h|h
    ·exact h
    ·rw [a1] at h;cases h
    ·rw [a2] at h;cases h
 by_cases c6:op=6
 ·rw [if_pos c6,both];simp [c6]
 ·rw [if_neg c6]
  by_cases c7:op=7
  ·rw [if_pos c7,both];simp [c7]
  ·rw [if_neg c7]
   by_cases c8:op=8
   ·rw [if_pos c8,both];simp [c8]
   ·rw [if_neg c8,stop];simp [c6,c7,c8]
theorem A29 (k:Nat) (op k1 n1:Int) (s1:Nat) (t1:ByteArray) (k2 n2:Int) (s2:Nat) (t2:ByteArray) (hk:100 < k) (h1:RV k1 n1 s1) (h2:RV k2 n2 s2) :
  Ad1.j0 k op k1 n1 (s1:Int) t1 k2 n2 (s2:Int) t2=some (reckRes op k1 n1 s1 k2 n2 s2):=by
 obtain ⟨k,rfl⟩:∃ m,k=m+3:=⟨k - 3,by omega⟩
 have hn:∀ kd n s t,Aej.f kd n s t=some (num kd):=fun kd n s t=>by
  unfold Aej.f num
  by_cases a:kd=0
  ·rw [if_pos a];simp [a]
  ·rw [if_neg a]
   by_cases b:kd=2
   ·rw [if_pos b];simp [b]
   ·rw [if_neg b];simp [a,b]
 have tail:num k1=true→num k2=true→Ad1.j1 (k+2) op false k1 n1 (s1:Int) t1 k2 n2 (s2:Int) t2=some (if k1=0∨k2=0 then nullR else if k1=k2 then (if k1=2 then intRes op n1 n2 else decsRes op n1 s1 n2 s2) else typeR):=by
  intro hn1 hn2
  simp only [Ad1.j1,Bool.false_eq_true,if_false]
  by_cases z1:k1=0
  ·rw [if_pos z1,if_pos (Or.inl z1)];simp only [Ad1.j2,if_true];rfl
  ·rw [if_neg z1]
   simp only [Ad1.j2]
   by_cases z2:k2=0
   ·rw [if_pos (by simpa using z2),if_pos (Or.inr z2)];rfl
   ·rw [if_neg (by simpa using z2),if_neg (show ¬(k1=0∨k2=0) by omega)]
    by_cases e:k1=k2
    ·rw [if_pos e,if_pos e]
     by_cases e2:k1=2
     ·rw [if_pos e2,if_pos e2,A7r op n1 n2 h1.i h2.i];rfl
     ·rw [if_neg e2,if_neg e2]
      have e3:k1=3:=by unfold num at hn1;simp at hn1;omega
      rw [A7m k op n1 s1 t1 n2 s2 t2 k1 k2 (by omega) (h1.d e3) (h2.d (by omega))]
      rfl
    ·rw [if_neg e,if_neg e];rfl
 have stop:Ad1.j1 (k+2) op true k1 n1 (s1:Int) t1 k2 n2 (s2:Int) t2=some typeR:=by simp only [Ad1.j1,if_true];rfl
 simp only [Ad1.j0,hn,Option.bind_some]
 unfold reckRes
 have both:(if num k1=true then Ad1.j1 (k+2) op (!num k2) k1 n1 (s1:Int) t1 k2 n2 (s2:Int) t2 else Ad1.j1 (k+2) op true k1 n1 (s1:Int) t1 k2 n2 (s2:Int) t2)=some (if num k1=true∧num k2=true then (if k1=0∨k2=0 then nullR else if k1=k2 then (if k1=2 then intRes op n1 n2 else decsRes op n1 s1 n2 s2) else typeR) else typeR):=by
  cases a1:num k1 with
  | false=>simp [stop]
  | true =>
   cases a2:num k2 with
   | false=>simp [stop]
   | true =>
    simp only [if_true,Bool.not_true,and_self]
    exact tail a1 a2
 by_cases c6:op=6
 ·rw [if_pos c6,both];simp [c6]
 ·rw [if_neg c6]
  by_cases c7:op=7
  ·rw [if_pos c7,both];simp [c7]
  ·rw [if_neg c7]
   by_cases c8:op=8
   ·rw [if_pos c8,both];simp [c8]
   ·rw [if_neg c8,stop];simp [c6,c7,c8]
def reckB (op k1 n1:Int) (s1:Nat) (k2 n2:Int) (s2:Nat):Int × Int × Int × ByteArray × Int :=
 if op=4 then reckRes 8 k1 0 0 k1 n1 s1 else reckRes op k1 n1 s1 k2 n2 s2
theorem RV_zero (kd:Int):RV kd 0 0:=⟨⟨by decide,by decide⟩,fun _=>⟨by decide,by decide,by decide,Or.inl rfl⟩⟩
theorem A7d (k:Nat) (op k1 n1:Int) (s1:Nat) (t1:ByteArray) (k2 n2:Int) (s2:Nat) (t2:ByteArray) (hk:100 < k) (h1:RV k1 n1 s1) (h2:RV k2 n2 s2) :
  Ad5.f k op k1 n1 (s1:Int) t1 k2 n2 (s2:Int) t2=some (reckB op k1 n1 s1 k2 n2 s2):=by
 unfold Ad5.f reckB
 by_cases c:op=4
 ·rw [if_pos c,if_pos c]
  exact A42 k 8 k1 0 0 _ k1 n1 s1 t1 hk (RV_zero k1) h1
 ·rw [if_neg c,if_neg c]
  exact A42 k op k1 n1 s1 t1 k2 n2 s2 t2 hk h1 h2
theorem A7c (k:Nat) (op k1 n1:Int) (s1:Nat) (t1:ByteArray) (k2 n2:Int) (s2:Nat) (t2:ByteArray) (hk:100 < k) (h1:RV k1 n1 s1) (h2:RV k2 n2 s2) :
  Ad1.f k op k1 n1 (s1:Int) t1 k2 n2 (s2:Int) t2=some (reckB op k1 n1 s1 k2 n2 s2):=by
 unfold Ad1.f reckB
 by_cases c:op=4
 ·rw [if_pos c,if_pos c]
  by_cases a:k1=2
  ·rw [if_pos a];exact A29 k 8 k1 0 0 _ k1 n1 s1 t1 hk (RV_zero k1) h1
  rw [if_neg a]
  by_cases b:k1=3
  ·rw [if_pos b];exact A29 k 8 k1 0 0 _ k1 n1 s1 t1 hk (RV_zero k1) h1
  rw [if_neg b]
  rw [A29 k 8 k1 n1 s1 t1 k1 n1 s1 t1 hk h1 h1]
  unfold reckRes
  by_cases z:k1=0
  ·subst z;simp [num]
  ·have:num k1=false:=by unfold num;simp [a,b,z]
   simp [this]
 ·rw [if_neg c,if_neg c]
  exact A29 k op k1 n1 s1 t1 k2 n2 s2 t2 hk h1 h2
end Go.Proofs.Ytglffgneikoeaaa.M
namespace Go.Proofs.Ytglffgneikoeaaa.M
open Go.RowKit Go.Proofs.YtglffgneikoeaaaW.PrintWords Go.Proofs.YtglffgneikoeaaaW.PrintLast Go.Proofs.YtglffgneikoeaaaW.PrintMore
attribute [local go_sem] max2_int min2_int max_two min_two max_three min_three max_four min_four
attribute [local go_sem high] own_gtr own_leq own_geq own_cell_set Option.map_some
set_option linter.unusedVariables false
set_option linter.unusedSimpArgs false
theorem within_eq (a n:Int) (ha:I64 a) (h0:0 < n) (h1:n≤4611686018427387904):federationlaw1_within.f a n=some (a % n):=by
 unfold federationlaw1_within.f I64 at *
 rw [if_neg (by omega)]
 have e1:=Int.mul_tdiv_add_tmod a n
 have e2:=Int.mul_ediv_add_emod a n
 have e3:=Int.emod_lt_of_pos a h0
 have e4:=Int.emod_nonneg a (show n≠0 by omega)
 have e5:=Int.tmod_lt_of_pos a h0
 have e6:=Int.tmod_lt_of_pos (-a) h0
 rw [Int.neg_tmod] at e6
 by_cases c:a.tmod n < 0
 ·rw [if_pos c,wrap64_of (by omega) (by omega)]
  have:=((Int.ediv_emod_unique (a:=a) (r:=a.tmod n+n) (q:=a.tdiv n - 1) h0).2 ⟨by rw [Int.mul_sub,Int.mul_one];omega,by omega,by omega⟩).2
  rw [this]
 ·rw [if_neg c]
  have:=((Int.ediv_emod_unique (a:=a) (r:=a.tmod n) (q:=a.tdiv n) h0).2 ⟨by omega,by omega,by omega⟩).2
  rw [this]
theorem emod_bd (a n:Int) (h0:0 < n):0≤a % n∧a % n < n:=⟨Int.emod_nonneg a (by omega),Int.emod_lt_of_pos a h0⟩
theorem RV_right {kd n:Int} {s:Nat} {st:ByteArray} (hn:I64 n) (h:rightB kd n (s:Int) st=true):RV kd n s:=by
 refine ⟨hn,fun e=>?_⟩
 subst e
 unfold rightB at h
 rw [if_neg (by decide),if_neg (by decide),if_neg (by decide),if_pos rfl,Bool.and_eq_true,decide_eq_true_eq] at h
 obtain ⟨⟨a,b,c,d,e⟩,_⟩:=h
 exact ⟨a,b,by omega,by omega⟩
theorem noS_empty:noS (⟨#[]⟩:ByteArray)=true:=by decide +kernel
theorem right_RD {n:Int} {s:Nat} (h:RD n s):rightB 3 n (s:Int) (⟨#[]⟩:ByteArray)=true:=by
 unfold rightB
 rw [if_neg (by decide),if_neg (by decide),if_neg (by decide),if_pos rfl,noS_empty,Bool.and_true,decide_eq_true_eq]
 exact ⟨h.lo,h.hi,by omega,by have:=h.sc;omega,by have:=h.nm;omega⟩
theorem RD_red (n:Int) (s:Nat) (h0 : -1000000000000000 < n) (h1:n < 1000000000000000) (hs:s≤6):RD (red n s).1 (red n s).2:=by
 have a:=red_abs s n
 have b:=red_scale s n
 have c:=red_done s n
 exact ⟨by omega,by omega,by omega,c⟩
theorem mkText_size (st:ByteArray):(mkText st).data.size≤40:=by
 unfold mkText strOfNums
 simp [conv8L_length]
 omega
theorem mkText_ok (st:ByteArray):okB (mkText st)=true:=by
 unfold okB mkText strOfNums
 simp only [List.all_eq_true,decide_eq_true_eq,List.map_toArray,List.mem_map,conv8L]
 rintro b ⟨x,hx,rfl⟩
 obtain ⟨c,_,rfl⟩:=List.mem_map.1 (List.mem_of_mem_take hx)
 unfold conv8
 have h1:=emod_bd (c.toNat:Int) 95 (by decide)
 generalize (c.toNat:Int) % 95=z at *
 have:((32+z).toNat % 256)=(32+z).toNat:=Nat.mod_eq_of_lt (by omega)
 simp only [UInt8.toNat_ofNat']
 omega
theorem extract_size (st:ByteArray) (j:Nat):(st.extract 0 j).data.size=min j st.data.size:=by
 rw [← Array.length_toList,Lib.extract_data]
 simp
structure Made (kd n:Int) (s:Nat) (st:ByteArray):Prop where
 r:rightB kd n (s:Int) st=true
 v:RV kd n s
 sz:st.data.size≤40
 k0:0≤kd
 k5:kd≤5
 z:kd≠3→s=0
theorem rd6 (a b c d e f:Int) (i:Int) (h0:0≤i) (h1:i < 6):rd [a,b,c,d,e,f] i=a∨rd [a,b,c,d,e,f] i=b∨rd [a,b,c,d,e,f] i=c∨rd [a,b,c,d,e,f] i=d∨rd [a,b,c,d,e,f] i=e∨rd [a,b,c,d,e,f] i=f:=by
 have:i=0∨i=1∨i=2∨i=3∨i=4∨i=5:=by omega
 rcases this with rfl|rfl|rfl|rfl|rfl|rfl
 ·exact Or.inl rfl
 ·exact Or.inr (Or.inl rfl)
 ·exact Or.inr (Or.inr (Or.inl rfl))
 ·exact Or.inr (Or.inr (Or.inr (Or.inl rfl)))
 ·exact Or.inr (Or.inr (Or.inr (Or.inr (Or.inl rfl))))
 ·exact Or.inr (Or.inr (Or.inr (Or.inr (Or.inr rfl))))
theorem rd8 (a b c d e f g h:Int) (P:Int→Prop) (pa:P a) (pb:P b) (pc:P c) (pd:P d) (pe:P e) (pf:P f) (pg:P g) (ph:P h) (i:Int) (h0:0≤i) (h1:i < 8):P (rd [a,b,c,d,e,f,g,h] i):=by
 have:i=0∨i=1∨i=2∨i=3∨i=4∨i=5∨i=6∨i=7:=by omega
 rcases this with rfl|rfl|rfl|rfl|rfl|rfl|rfl|rfl
 ·exact pa
 ·exact pb
 ·exact pc
 ·exact pd
 ·exact pe
 ·exact pf
 ·exact pg
 ·exact ph
theorem I64_tdiv (a b:Int) (ha:I64 a) (hb:2≤b):I64 (wrap64 (a.tdiv b))∧wrap64 (a.tdiv b)=a.tdiv b:=by
 have h:=Int.natAbs_tdiv_le_natAbs a b
 have h2:(a.tdiv b).natAbs≤4611686018427387904:=by
  rw [Int.natAbs_tdiv]
  have h1:a.natAbs≤9223372036854775808:=by unfold I64 at ha;omega
  exact Nat.le_trans (Nat.div_le_div_left (show 2≤b.natAbs by omega) (by decide)) (by have:=Nat.div_le_div_right (c:=2) h1;simpa using this)
 have e:wrap64 (a.tdiv b)=a.tdiv b:=wrap64_of (by omega) (by omega)
 rw [e]
 exact ⟨⟨by omega,by omega⟩,rfl⟩
theorem Make_eq (kind n:Int) (st:ByteArray) (hk:I64 kind) (hn:I64 n) (hs:st.size≤140737488351232) :
  ∃ n' s' st',(∀ k,60 < k→federationlaw1_Make.f k kind n st=some (kind % 6,n',((s':Nat):Int),st'))∧Made (kind % 6) n' s' st':=by
 have hk6:=within_eq kind 6 hk (by decide) (by decide)
 have hb:=emod_bd kind 6 (by decide)
 have hd:=I64_tdiv kind 6 hk (by decide)
 have hd2:=I64_tdiv kind 36 hk (by decide)
 have h0:I64 0:=⟨by decide,by decide⟩
 have em:(⟨#[]⟩:ByteArray).data.size≤40:=by decide
 have c:kind % 6=0∨kind % 6=1∨kind % 6=2∨kind % 6=3∨kind % 6=4∨kind % 6=5:=by omega
 rcases c with c|c|c|c|c|c
 ·have hr:rightB (kind % 6) 0 ((0:Nat):Int) (⟨#[]⟩:ByteArray)=true:=by rw [c];decide +kernel
  refine ⟨0,0,_,fun k _=>?_,⟨hr,RV_right h0 hr,em,hb.1,by omega,fun _=>rfl⟩⟩
  unfold federationlaw1_Make.f federationlaw1_Make_p.f
  rw [hk6,c,if_neg (by decide),Option.bind_some,if_neg (by decide),if_neg (by decide),if_neg (by decide),if_neg (by decide),if_neg (by decide)]
  rfl
 ·have hw:=within_eq n 2 hn (by decide) (by decide)
  have hm:=emod_bd n 2 (by decide)
  have hr:rightB (kind % 6) (n % 2) ((0:Nat):Int) (⟨#[]⟩:ByteArray)=true:=by
   rw [c];unfold rightB;rw [if_neg (by decide),if_pos rfl,noS_empty,decide_eq_true (by omega)];rfl
  refine ⟨n % 2,0,_,fun k _=>?_,⟨hr,RV_right ⟨by omega,by omega⟩ hr,em,hb.1,by omega,fun _=>rfl⟩⟩
  unfold federationlaw1_Make.f federationlaw1_Make_p.f
  rw [hk6,c,if_neg (by decide),Option.bind_some,if_pos rfl,hw,Option.bind_some]
  rfl
 ·have hw:=within_eq n 100 hn (by decide) (by decide)
  have hm:=emod_bd n 100 (by decide)
  have hi:=within_eq (wrap64 (Int.tdiv kind 6)) 8 hd.1 (by decide) (by decide)
  have hj:=emod_bd (wrap64 (Int.tdiv kind 6)) 8 (by decide)
  generalize hz:wrap64 (Int.tdiv kind 6) % 8=j at hi hj
  have hrd:I64 (rd [n,0,1,-1,9223372036854775807,-9223372036854775808,wrap64 (n % 100 - 50),7] j):=by
   rw [wrap64_of (by omega) (by omega)]
   exact rd8 _ _ _ _ _ _ _ _ I64 hn ⟨by decide,by decide⟩ ⟨by decide,by decide⟩ ⟨by decide,by decide⟩ ⟨by decide,by decide⟩ ⟨by decide,by decide⟩ ⟨by omega,by omega⟩ ⟨by decide,by decide⟩ j hj.1 hj.2
  have hr:rightB (kind % 6) (rd [n,0,1,-1,9223372036854775807,-9223372036854775808,wrap64 (n % 100 - 50),7] j) ((0:Nat):Int) (⟨#[]⟩:ByteArray)=true:=by
   rw [c];unfold rightB;rw [if_neg (by decide),if_neg (by decide),if_pos rfl,noS_empty];rfl
  refine ⟨_,0,_,fun k _=>?_,⟨hr,RV_right hrd hr,em,hb.1,by omega,fun _=>rfl⟩⟩
  unfold federationlaw1_Make.f federationlaw1_Make_p.f
  rw [hk6,c,if_neg (by decide),Option.bind_some,if_neg (by decide),if_pos rfl,hw,Option.bind_some,Option.bind_some,hi,Option.bind_some,if_pos hj.1,if_pos (by simp;omega)]
  rfl
 ·have hw:=within_eq n 2000 hn (by decide) (by decide)
  have hm:=emod_bd n 2000 (by decide)
  have hw2:=within_eq n 50 hn (by decide) (by decide)
  have hm2:=emod_bd n 50 (by decide)
  have hi:=within_eq (wrap64 (Int.tdiv kind 6)) 6 hd.1 (by decide) (by decide)
  have hj:=emod_bd (wrap64 (Int.tdiv kind 6)) 6 (by decide)
  have hi2:=within_eq (wrap64 (Int.tdiv kind 36)) 7 hd2.1 (by decide) (by decide)
  have hj2:=emod_bd (wrap64 (Int.tdiv kind 36)) 7 (by decide)
  generalize hz:wrap64 (Int.tdiv kind 6) % 6=j at hi hj
  generalize hz2:wrap64 (Int.tdiv kind 36) % 7=j2 at hi2 hj2
  have ht1:=Int.tmod_lt_of_pos n (show (0:Int) < 1000000000000000 by decide)
  have ht2:=Int.tmod_lt_of_pos (-n) (show (0:Int) < 1000000000000000 by decide)
  rw [Int.neg_tmod] at ht2
  have hx : -1000000000000000 < rd [Int.tmod n 1000000000000000,wrap64 (n % 2000 - 1000),999999999999999,-999999999999999,1,wrap64 (wrap64 (n % 50*1000) - 20000)] j∧rd [Int.tmod n 1000000000000000,wrap64 (n % 2000 - 1000),999999999999999,-999999999999999,1,wrap64 (wrap64 (n % 50*1000) - 20000)] j < 1000000000000000:=by
   have e1:wrap64 (n % 2000 - 1000)=n % 2000 - 1000:=wrap64_of (by omega) (by omega)
   have e2:wrap64 (n % 50*1000)=n % 50*1000:=wrap64_of (by omega) (by omega)
   have e3:wrap64 (n % 50*1000 - 20000)=n % 50*1000 - 20000:=wrap64_of (by omega) (by omega)
   rw [e1,e2,e3]
   rcases rd6 (Int.tmod n 1000000000000000) (n % 2000 - 1000) 999999999999999 (-999999999999999) 1 (n % 50*1000 - 20000) j hj.1 hj.2 with h|h|h|h|h|h<;>rw [h]<;>omega
  obtain ⟨t,rfl⟩:∃ t:Nat,j2=(t:Int):=⟨j2.toNat,by omega⟩
  generalize hy:rd [Int.tmod n 1000000000000000,wrap64 (n % 2000 - 1000),999999999999999,-999999999999999,1,wrap64 (wrap64 (n % 50*1000) - 20000)] j=y at hx
  have hrd:=RD_red y t hx.1 hx.2 (by omega)
  have hr:=right_RD hrd
  rw [← c] at hr
  refine ⟨(red y t).1,(red y t).2,_,fun k hk=>?_,⟨hr,RV_right ⟨by have:=hrd.lo;omega,by have:=hrd.hi;omega⟩ hr,em,hb.1,by omega,fun e=>absurd c e⟩⟩
  unfold federationlaw1_Make.f federationlaw1_Make_p.f
  rw [hk6,c,if_neg (by decide),Option.bind_some,if_neg (by decide),if_neg (by decide),if_pos rfl,hw,Option.bind_some,hw2,Option.bind_some,Option.bind_some,hi,Option.bind_some,if_pos hj.1,if_pos (by simp;omega),hi2,Option.bind_some,hy,ref_Norm_eq k t y _ (by omega) (by omega) (by omega) (by omega),Option.bind_some]
 ·have hr:rightB (kind % 6) 0 ((0:Nat):Int) (mkText st)=true:=by
   have h1:=mkText_size st
   have h2:=mkText_ok st
   rw [c];unfold rightB;rw [if_neg (by decide),if_neg (by decide),if_neg (by decide),if_neg (by decide),if_pos rfl,h2,decide_eq_true (by omega)];rfl
  refine ⟨0,0,_,fun k _=>?_,⟨hr,RV_right h0 hr,mkText_size st,hb.1,by omega,fun _=>rfl⟩⟩
  unfold federationlaw1_Make.f
  rw [hk6,c,if_pos rfl,if_pos hs]
  rfl
 ·have hz:(st.size:Int)=(st.data.size:Int):=rfl
  have hm:mn (st.size:Int) 40=((min 40 st.data.size:Nat):Int):=by unfold mn;split<;>omega
  have hr:rightB (kind % 6) 0 ((0:Nat):Int) (st.extract 0 (min 40 st.data.size))=true:=by
   have h1:=extract_size st (min 40 st.data.size)
   rw [c];unfold rightB;rw [if_neg (by decide),if_neg (by decide),if_neg (by decide),if_neg (by decide),if_neg (by decide),if_pos rfl,decide_eq_true (by omega)]
  refine ⟨0,0,_,fun k _=>?_,⟨hr,RV_right h0 hr,by rw [extract_size];omega,hb.1,by omega,fun _=>rfl⟩⟩
  unfold federationlaw1_Make.f federationlaw1_Make_p.f
  rw [hk6,c,if_neg (by decide),Option.bind_some,if_neg (by decide),if_neg (by decide),if_neg (by decide),if_neg (by decide),if_pos rfl,hm,if_pos (by omega),if_pos (by omega)]
  rfl
end Go.Proofs.Ytglffgneikoeaaa.M
namespace Go.Proofs.Ytglffgneikoeaaa.Den
open Go Go.RowKit
open Go.Proofs.Ytglffgneikoeaaa.M
theorem fn_of {P:Program} (g:FuncId) (h:(match P.funcs[g]? with|some fn=>!(fn.name == "runtime.NumGoroutine")&&fn.body.isSome|none=>false)=true):∃ fn,P.funcs[g]? = some fn∧(fn.name == "runtime.NumGoroutine")=false∧fn.body.isSome=true:=by
 split at h
 ·rename_i fn hf
  simp only [Bool.and_eq_true,Bool.not_eq_true'] at h
  exact ⟨fn,hf,h.1,h.2⟩
 ·cases h
def vP (k n s:Int) (l:List UInt8):PV:=.agg [.int .i64 k, .int .i64 n, .int .i64 s, .str l]
theorem A4h (c n:Int) (l:List UInt8) (hc:I64 c) (hn:I64 n) (hs:l.length≤140737488351232) :
  ∃ N S st,Made (c % 6) N S st∧Ev PG f_l1_Make [.int .i64 c, .int .i64 n, .str l] (vP (c % 6) N (S:Nat) st.data.toList):=by
 obtain ⟨N,S,st,h1,h2⟩:=Make_eq c n ⟨l.toArray⟩ hc hn (by show l.toArray.size≤_;simpa using hs)
 refine ⟨N,S,st,h2,Ev.ofCalls (fn_of _ (by kernel_rfl)) fun X w vs a1 a2 a3=>?_⟩
 obtain ⟨u,v,t,rfl,r1,r2,r3⟩:=vs_three a1 a2
 rw [r1.int_inv,r2.int_inv,r3.str_inv]
 refine (federationlaw1_Make.calls 61 c n ⟨l.toArray⟩ _ _ _ _ w (h1 61 (by decide))).mono ?_
 rintro e w' ⟨he,bel⟩
 exact ⟨⟨_,he,R_val X _ _ _ _⟩,bel⟩
theorem w3_kt:callF PG (fOrc (fun _ _=>false) [.op (.bin .rem ty_int) [.atom 0, .atom 1] (.atom 2), .op (.bin .lss ty_int) [.atom 2, .int .i64 0] (.bool true), .op (.bin .add ty_int) [.atom 2, .atom 1] (.atom 3)]) 5 f_l3_within [.atom 0, .atom 1] []=some (.atom 3,[]):=by kernel_rfl
theorem w3_kf:callF PG (fOrc (fun _ _=>false) [.op (.bin .rem ty_int) [.atom 0, .atom 1] (.atom 2), .op (.bin .lss ty_int) [.atom 2, .int .i64 0] (.bool false)]) 5 f_l3_within [.atom 0, .atom 1] []=some (.atom 2,[]):=by kernel_rfl
theorem within3_ev (a n:Int) (hn:n≠0):Ev PG f_l3_within [.int .i64 a, .int .i64 n] (.int .i64 (wthn a n)):=by
 by_cases hc:a.tmod n < 0
 ·have e:wthn a n=IntKind.i64.wrap (a.tmod n+n):=if_pos hc
  rw [e]
  exact Ev.facts prog_ok (nuL_okB (l:=[.int .i64 a, .int .i64 n, .int .i64 (a.tmod n), .int .i64 (IntKind.i64.wrap (a.tmod n+n))]) rfl)
   w3_kt ⟨fInt rfl rfl rfl (by simp [intP,hn]) (by decide) rfl,fCmp rfl rfl rfl (by simp [intP,hc]) (by decide) rfl,fInt rfl rfl rfl rfl (by decide) rfl,trivial⟩ rfl rfl
 ·have e:wthn a n=a.tmod n:=if_neg hc
  rw [e]
  exact Ev.facts prog_ok (nuL_okB (l:=[.int .i64 a, .int .i64 n, .int .i64 (a.tmod n)]) rfl)
   w3_kf ⟨fInt rfl rfl rfl (by simp [intP,hn]) (by decide) rfl,fCmp rfl rfl rfl (by simp [intP,hc]) (by decide) rfl,trivial⟩ rfl rfl
end Go.Proofs.Ytglffgneikoeaaa.Den
namespace Go.Proofs.Ytglffgneikoeaaa.Den
open Go Go.RowKit
abbrev nI (n:Int):PV:=.int .i64 n
abbrev oI (op:BinOp) (x y r:PV):Fact:=.op (.bin op ty_int) [x,y] r
def noOwn (_:TypeId) (_:Nat):Bool:=false
def tFacts (k L key u l : Nat) : List Fact :=
  [oI .quo (.atom 0) (nI 4) (.atom 3), .prim f_l3_within [.atom 3, nI 4] (nI ((k : Int) - 1)), .prim f_l3_Name [.atom 0] (.atom 4), .op (.len ty_sl_int) [.atom 1] (.atom 2),
   oI .quo (.atom 0) (nI 16) (.atom 5), .prim f_l3_within [.atom 5, nI k] (nI key), oI .quo (.atom 0) (nI 64) (.atom 6), .prim f_l3_within [.atom 6, nI 3] (nI u),
   oI .quo (.atom 0) (nI 256) (.atom 7), .prim f_l3_within [.atom 7, nI 3] (nI l), oI .quo (.atom 0) (nI 512) (.atom 8), oI .quo (.atom 0) (nI 1024) (.atom 9)] ++
  (List.range L).flatMap (fun (i : Nat) => [oI .lss (nI i) (.atom 2) (.bool true), .op (.ix ty_sl_int) [.atom 1, nI i] (.ref [.atom (20 + i)]), .prim f_l3_within [.atom (20 + i), nI 1073741824] (.atom (24 + i)), oI .rem (.atom (24 + i)) (nI 5) (.atom (28 + i)), oI .add (nI 1) (.atom (28 + i)) (.atom (32 + i)),
     oI .quo (.atom (24 + i)) (nI 5) (.atom (36 + i)), oI .rem (.atom (36 + i)) (nI 3) (.atom (40 + i)), oI .eql (.atom (40 + i)) (nI 0) (.atom (44 + i))]) ++
  (List.range (k - L)).map (fun (i : Nat) => oI .lss (nI (L + i : Nat)) (.atom 2) (.bool false)) ++
  (List.range l).flatMap (fun (i : Nat) => [oI .add (.atom 8) (nI i) (.atom (48 + i)), .prim f_l3_within [.atom (48 + i), nI k] (.atom (50 + i)), oI .add (.atom 9) (nI i) (.atom (52 + i)), .prim f_l3_Name [.atom (52 + i)] (.atom (54 + i))])
def colA (L key i:Nat):PV:=.agg [.str [UInt8.ofNat (97+i)],if i < L then .atom (32+i) else nI (1+(2+i) % 5:Nat),if i=key then .bool true else if i < L then .atom (44+i) else .bool ((2+i) / 5 % 3==0)]
def uqA (k key u:Nat):PV:=if u=0 then .nilslice else .slice 1 ((List.range (min u k)).map fun (i:Nat)=>nI ((key+1+i) % k:Nat))
def lkA (l:Nat):PV:=if l=0 then .nilslice else .slice 2 ((List.range l).map fun (i:Nat)=>.agg [.atom (50+i), .atom (54+i)])
def tabC (nm cols key uq lk:PV):PV:=.agg [nm,cols,key,uq,nI 0, .str [],nI 0,nI 0,nI 0, .str [], .nilslice,lk]
def tabA (k L key u l:Nat):PV:=tabC (.atom 4) (.slice 3 ((List.range k).map (colA L key))) (nI key) (uqA k key u) (lkA l)
noncomputable def tabOkB (k L key u l:Nat):Bool:=okR (tabA k L key u l) (callF PG (fOrc noOwn (tFacts k L key u l)) 60 f_l3_Table [.atom 0, .atom 1, .nilslice] [])
theorem table_k1:((List.range 2).all fun L=>(List.range 1).all fun key=>(List.range 3).all fun u=>(List.range 3).all fun l=>tabOkB 1 L key u l)=true:=by kernel_rfl
theorem table_k2:((List.range 3).all fun L=>(List.range 2).all fun key=>(List.range 3).all fun u=>(List.range 3).all fun l=>tabOkB 2 L key u l)=true:=by kernel_rfl
theorem table_k3:((List.range 4).all fun L=>(List.range 3).all fun key=>(List.range 3).all fun u=>(List.range 3).all fun l=>tabOkB 3 L key u l)=true:=by kernel_rfl
theorem table_k40:((List.range 5).all fun L=>(List.range 3).all fun u=>(List.range 3).all fun l=>tabOkB 4 L 0 u l)=true:=by kernel_rfl
theorem table_k41:((List.range 5).all fun L=>(List.range 3).all fun u=>(List.range 3).all fun l=>tabOkB 4 L 1 u l)=true:=by kernel_rfl
theorem table_k42:((List.range 5).all fun L=>(List.range 3).all fun u=>(List.range 3).all fun l=>tabOkB 4 L 2 u l)=true:=by kernel_rfl
theorem table_k43:((List.range 5).all fun L=>(List.range 3).all fun u=>(List.range 3).all fun l=>tabOkB 4 L 3 u l)=true:=by kernel_rfl
theorem table_k4:((List.range 5).all fun L=>(List.range 4).all fun key=>(List.range 3).all fun u=>(List.range 3).all fun l=>tabOkB 4 L key u l)=true:=by
 refine List.all_eq_true.2 fun L hL=>List.all_eq_true.2 fun key hk=>List.all_eq_true.2 fun u hu=>List.all_eq_true.2 fun l hl=>?_
 rw [List.mem_range] at hk
 have:key=0∨key=1∨key=2∨key=3:=by omega
 rcases this with rfl|rfl|rfl|rfl
 ·exact List.all_eq_true.1 (List.all_eq_true.1 (List.all_eq_true.1 table_k40 L hL) u hu) l hl
 ·exact List.all_eq_true.1 (List.all_eq_true.1 (List.all_eq_true.1 table_k41 L hL) u hu) l hl
 ·exact List.all_eq_true.1 (List.all_eq_true.1 (List.all_eq_true.1 table_k42 L hL) u hu) l hl
 ·exact List.all_eq_true.1 (List.all_eq_true.1 (List.all_eq_true.1 table_k43 L hL) u hu) l hl
theorem table_k (k L key u l:Nat) (hk:1≤k∧k≤4) (hL:L≤k) (hkey:key < k) (hu:u < 3) (hl:l < 3):tabOkB k L key u l=true:=by
 have:k=1∨k=2∨k=3∨k=4:=by omega
 rcases this with rfl|rfl|rfl|rfl
 ·exact List.all_eq_true.1 (List.all_eq_true.1 (List.all_eq_true.1 (List.all_eq_true.1 table_k1 L (by rw [List.mem_range];omega)) key (by rw [List.mem_range];omega)) u (by rw [List.mem_range];omega)) l (by rw [List.mem_range];omega)
 ·exact List.all_eq_true.1 (List.all_eq_true.1 (List.all_eq_true.1 (List.all_eq_true.1 table_k2 L (by rw [List.mem_range];omega)) key (by rw [List.mem_range];omega)) u (by rw [List.mem_range];omega)) l (by rw [List.mem_range];omega)
 ·exact List.all_eq_true.1 (List.all_eq_true.1 (List.all_eq_true.1 (List.all_eq_true.1 table_k3 L (by rw [List.mem_range];omega)) key (by rw [List.mem_range];omega)) u (by rw [List.mem_range];omega)) l (by rw [List.mem_range];omega)
 ·exact List.all_eq_true.1 (List.all_eq_true.1 (List.all_eq_true.1 (List.all_eq_true.1 table_k4 L (by rw [List.mem_range];omega)) key (by rw [List.mem_range];omega)) u (by rw [List.mem_range];omega)) l (by rw [List.mem_range];omega)
end Go.Proofs.Ytglffgneikoeaaa.Den
