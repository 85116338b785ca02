-- Written by drive.py and pack.py (programs of this proof's own) through the kit's printer; not trusted: Lean checks it.
import Derived.Test.YtglffgneikoeaaaCEvalAll4
import Derived.Test.YtglffgneikoeaaaCEvalAll6
import Derived.Test.YtglffgneikoeaaaCEvalAll5
import Derived.Shelf.Small.Strs
import Derived.Test.YtglffgneikoeaaaProg
namespace Go.Proofs.Ytglffgneikoeaaa.M
open Go.RowKit Go.Proofs.YtglffgneikoeaaaW.PrintWords Go.Proofs.YtglffgneikoeaaaW.PrintLast Go.Proofs.YtglffgneikoeaaaW.PrintMore
attribute [local go_sem] max2_int min2_int max_two min_two max_three min_three max_four min_four
attribute [local go_sem high] own_gtr own_leq own_geq own_cell_set Option.map_some
set_option linter.unusedVariables false
set_option linter.unusedSimpArgs false
def A2a.f (a0:Int) (a1:Int) (a2:Int):Option (Int × Int × Int × ByteArray × Int):=if a0 = 7 then ((A1b.f a1 a2).bind fun bt102=>(if bt102.2 = true then (some (2,bt102.1,0,(⟨#[]⟩:ByteArray),0)) else (some (0,0,0,(⟨#[]⟩:ByteArray),10)))) else (if a0 = 6 then ((Am0.f a1 a2).bind fun bt104=>(if bt104.2 = true then (some (2,bt104.1,0,(⟨#[]⟩:ByteArray),0)) else (some (0,0,0,(⟨#[]⟩:ByteArray),10)))) else (if ((decide (a1 ≥ 0)) == (decide (a2 ≥ 0))) = true then (some (2,wrap64 (a1 - a2),0,(⟨#[]⟩:ByteArray),0)) else (if (((decide ((wrap64 (a1 - a2)) ≥ 0)) == (decide (a1 ≥ 0))) = true) then (some (2,wrap64 (a1 - a2),0,(⟨#[]⟩:ByteArray),0)) else (some (0,0,0,(⟨#[]⟩:ByteArray),10)))))
set_option maxHeartbeats 8000000 in
set_option maxRecDepth 100000 in
theorem A2a.calls (a0:Int) (a1:Int) (a2:Int) (r1:Int) (r2:Int) (r3:Int) (r4:ByteArray) (r5:Int) (w:World) (h:A2a.f a0 a1 a2 = some (r1,r2,r3,r4,r5)) :
  Calls Try.prog 54 #[.int .i64 a0, .int .i64 a1, .int .i64 a2] w fun e w'=>e = .returned (.tuple #[.agg #[.int .i64 r1, .int .i64 r2, .int .i64 r3, .string r4], .int .i64 r5]) ∧ Below w.heap.size w w':=by
 have hu28:=Try.underlying28
 have HB:=z_ (Below.refl w.heap.size w)
 have H:(if a0 = 7 then ((A1b.f a1 a2).bind fun bt102=>(if bt102.2 = true then (some (2,bt102.1,0,(⟨#[]⟩:ByteArray),0)) else (some (0,0,0,(⟨#[]⟩:ByteArray),10)))) else (if a0 = 6 then ((Am0.f a1 a2).bind fun bt104=>(if bt104.2 = true then (some (2,bt104.1,0,(⟨#[]⟩:ByteArray),0)) else (some (0,0,0,(⟨#[]⟩:ByteArray),10)))) else (if ((decide (a1 ≥ 0)) == (decide (a2 ≥ 0))) = true then (some (2,wrap64 (a1 - a2),0,(⟨#[]⟩:ByteArray),0)) else (if (((decide ((wrap64 (a1 - a2)) ≥ 0)) == (decide (a1 ≥ 0))) = true) then (some (2,wrap64 (a1 - a2),0,(⟨#[]⟩:ByteArray),0)) else (some (0,0,0,(⟨#[]⟩:ByteArray),10)))))) = some (r1,r2,r3,r4,r5):=h
 clear h
 by_cases c4:a0 = 7
 ·rw [if_pos c4] at H
  have c4b0:(a0 == 7) = true:=beq_iff_eq.mpr c4
  have c4b1:(a0 != 7) = false:=bne_eq_false_iff_eq.mpr c4
  clear c4
  replace H:=Option.bind_eq_some_iff.mp H
  obtain ⟨⟨t102,t103⟩,A50,H⟩:=H
  replace H:(if t103 = true then (some (2,t102,0,(⟨#[]⟩:ByteArray),0)) else (some (0,0,0,(⟨#[]⟩:ByteArray),10))) = some (r1,r2,r3,r4,r5):=H
  have A5:=z_ A50
  clear A50
  by_cases c6:t103 = true
  ·subst c6
   have H1:(some (2,t102,0,(⟨#[]⟩:ByteArray),0)) = some (r1,r2,r3,r4,r5):=by rw [if_pos rfl] at H;exact H
   clear H
   have H:=H1
   clear H1
   simp only [Option.some.injEq,Prod.mk.injEq] at H
   obtain ⟨rfl,rfl,rfl,rfl,rfl⟩:=H
   go_enter Try.func54,Try.ntmps54
   go_wp2_with (first|((with_reducible refine gate_dst (N:=6) rfl ?_);refine box_event (by rfl) (N:=6) (by rfl) (cs:=#[.int .i64 0, .int .i64 0, .int .i64 0, .string (⟨#[]⟩:ByteArray)]) (t:=28) W3 ?_;intro gb101 hg w7 hbox hb;have BK101:=z_ (hbox);have GW101:=z_ ((W0:w.heap.size ≤ gb101));have GE101:=z_ ((W0:w.heap.size ≤ gb101));replace HB:=z_ (below_step W5 hb);clear hb hbox hg)|((with_reducible refine gate_callee (f:=67) rfl ?_);refine goesL_ (some 31) rfl rfl Try.func67 (by kernel_rfl) rfl #[.int .i64 a1, .int .i64 a2] rfl W4 ?_;(with_reducible refine (A1b.calls a1 a2 t102 true _ A5.out).mono ?_);rintro e w' ⟨rfl,⟨nd,rfl⟩⟩;refine ⟨_,rfl,?_⟩;(try (rw [drewN_self w7];generalize hq_:World.drewN w7 _ = w7;have n0_:Aside0 (w7.heap[gb101]? = some (.cells #[.int .i64 0, .int .i64 0, .int .i64 0, .string (⟨#[]⟩:ByteArray)] 28 (0,0))):=⟨by rw [← hq_];exact zp2⟩;have n1_:Aside0 (Below w.heap.size w w7):=⟨by rw [← hq_];exact zp1⟩;clear BK101 HB hq_;have BK101:=n0_;have HB:=n1_;clear n0_ n1_));(try have hcu8_0:w7.cell? ⟨gb101,0,none⟩ = some (.int .i64 0):=(Oi BK101.out 0).trans rfl);(try have hcu8_1:w7.cell? ⟨gb101,1,none⟩ = some (.int .i64 0):=(Oi BK101.out 1).trans rfl);(try have hcu8_2:w7.cell? ⟨gb101,2,none⟩ = some (.int .i64 0):=(Oi BK101.out 2).trans rfl);(try have hcu8_3:w7.cell? ⟨gb101,3,none⟩ = some (.string (⟨#[]⟩:ByteArray)):=(Oi BK101.out 3).trans rfl);(try have hfu8_0:=S3 BK101.out 0);(try have hfu8_1:=S3 BK101.out 1);(try have hfu8_2:=S3 BK101.out 2);(try have hfu8_3:=S3 BK101.out 3);obtain ⟨_,_,_,_,_,_,_,_⟩:=Rr BK101.out))
   refine bodyPost_ret (results_ct rfl _ _ gb101 28 #[.int .i64 2, .int .i64 t102, .int .i64 0, .string (⟨#[]⟩:ByteArray)] (0,0) _ rfl (by (with_reducible repeat first|apply Jx|apply A7|apply K0);refine Tt (cs:=#[.int .i64 2, .int .i64 t102, .int .i64 0, .string (⟨#[]⟩:ByteArray)]) ?_ 3 _ rfl;(with_reducible repeat first|apply Jx|apply A7|apply K0);refine Tt (cs:=#[.int .i64 2, .int .i64 t102, .int .i64 0, .string (⟨#[]⟩:ByteArray)]) ?_ 2 _ rfl;(with_reducible repeat first|apply Jx|apply A7|apply K0);refine Tt (cs:=#[.int .i64 2, .int .i64 0, .int .i64 0, .string (⟨#[]⟩:ByteArray)]) ?_ 1 _ rfl;(with_reducible repeat first|apply Jx|apply A7|apply K0);refine Tt (cs:=#[.int .i64 0, .int .i64 0, .int .i64 0, .string (⟨#[]⟩:ByteArray)]) ?_ 0 _ rfl;(with_reducible repeat first|apply Jx|apply A7|apply K0);exact BK101.out) Try.underlying28 rfl (by kernel_rfl)) rfl ?_
   exact ⟨by first|rfl|(simp [errW_none,errW_some] <;> rfl)|(simp [*,errW_none,errW_some] <;> rfl),by repeat first|(with_reducible first|exact HB.out|apply zA|apply zN|apply z1|refine zS ?_ GE101.out)|exact HB.out⟩
  ·replace c6:=Bool.eq_false_iff.mpr c6
   subst c6
   have H1:(some (0,0,0,(⟨#[]⟩:ByteArray),10)) = some (r1,r2,r3,r4,r5):=by rw [if_neg (show ¬ (false = true) by decide)] at H;exact H
   clear H
   have H:=H1
   clear H1
   simp only [Option.some.injEq,Prod.mk.injEq] at H
   obtain ⟨rfl,rfl,rfl,rfl,rfl⟩:=H
   go_enter Try.func54,Try.ntmps54
   go_wp2_with (first|((with_reducible refine gate_dst (N:=6) rfl ?_);refine box_event (by rfl) (N:=6) (by rfl) (cs:=#[.int .i64 0, .int .i64 0, .int .i64 0, .string (⟨#[]⟩:ByteArray)]) (t:=28) W3 ?_;intro gb101 hg w10 hbox hb;have BK101:=z_ (hbox);have GW101:=z_ ((W0:w.heap.size ≤ gb101));have GE101:=z_ ((W0:w.heap.size ≤ gb101));replace HB:=z_ (below_step W5 hb);clear hb hbox hg)|((with_reducible refine gate_callee (f:=67) rfl ?_);refine goesL_ (some 31) rfl rfl Try.func67 (by kernel_rfl) rfl #[.int .i64 a1, .int .i64 a2] rfl W4 ?_;(with_reducible refine (A1b.calls a1 a2 t102 false _ A5.out).mono ?_);rintro e w' ⟨rfl,⟨nd,rfl⟩⟩;refine ⟨_,rfl,?_⟩;(try (rw [drewN_self w10];generalize hq_:World.drewN w10 _ = w10;have n0_:Aside0 (w10.heap[gb101]? = some (.cells #[.int .i64 0, .int .i64 0, .int .i64 0, .string (⟨#[]⟩:ByteArray)] 28 (0,0))):=⟨by rw [← hq_];exact zp2⟩;have n1_:Aside0 (Below w.heap.size w w10):=⟨by rw [← hq_];exact zp1⟩;clear BK101 HB hq_;have BK101:=n0_;have HB:=n1_;clear n0_ n1_));(try have hcu11_0:w10.cell? ⟨gb101,0,none⟩ = some (.int .i64 0):=(Oi BK101.out 0).trans rfl);(try have hcu11_1:w10.cell? ⟨gb101,1,none⟩ = some (.int .i64 0):=(Oi BK101.out 1).trans rfl);(try have hcu11_2:w10.cell? ⟨gb101,2,none⟩ = some (.int .i64 0):=(Oi BK101.out 2).trans rfl);(try have hcu11_3:w10.cell? ⟨gb101,3,none⟩ = some (.string (⟨#[]⟩:ByteArray)):=(Oi BK101.out 3).trans rfl);(try have hfu11_0:=S3 BK101.out 0);(try have hfu11_1:=S3 BK101.out 1);(try have hfu11_2:=S3 BK101.out 2);(try have hfu11_3:=S3 BK101.out 3);obtain ⟨_,_,_,_,_,_,_,_⟩:=Rr BK101.out))
   refine bodyPost_ret (results_ct rfl _ _ gb101 28 #[.int .i64 0, .int .i64 0, .int .i64 0, .string (⟨#[]⟩:ByteArray)] (0,0) _ rfl A21 Try.underlying28 rfl (by kernel_rfl)) rfl ?_
   exact ⟨by first|rfl|(simp [errW_none,errW_some] <;> rfl)|(simp [*,errW_none,errW_some] <;> rfl),by repeat first|(with_reducible first|exact HB.out|apply zA|apply zN|apply z1|refine zS ?_ GE101.out)|exact HB.out⟩
 ·rw [if_neg c4] at H
  have c4b0:(a0 == 7) = false:=beq_eq_false_iff_ne.mpr c4
  have c4b1:(a0 != 7) = true:=bne_iff_ne.mpr c4
  by_cases c13:a0 = 6
  ·rw [if_pos c13] at H
   have c13b0:(a0 == 6) = true:=beq_iff_eq.mpr c13
   have c13b1:(a0 != 6) = false:=bne_eq_false_iff_eq.mpr c13
   clear c13
   replace H:=Option.bind_eq_some_iff.mp H
   obtain ⟨⟨t104,t105⟩,A140,H⟩:=H
   replace H:(if t105 = true then (some (2,t104,0,(⟨#[]⟩:ByteArray),0)) else (some (0,0,0,(⟨#[]⟩:ByteArray),10))) = some (r1,r2,r3,r4,r5):=H
   have A14:=z_ A140
   clear A140
   by_cases c15:t105 = true
   ·subst c15
    have H1:(some (2,t104,0,(⟨#[]⟩:ByteArray),0)) = some (r1,r2,r3,r4,r5):=by rw [if_pos rfl] at H;exact H
    clear H
    have H:=H1
    clear H1
    simp only [Option.some.injEq,Prod.mk.injEq] at H
    obtain ⟨rfl,rfl,rfl,rfl,rfl⟩:=H
    go_enter Try.func54,Try.ntmps54
    go_wp2_with (first|((with_reducible refine gate_dst (N:=6) rfl ?_);refine box_event (by rfl) (N:=6) (by rfl) (cs:=#[.int .i64 0, .int .i64 0, .int .i64 0, .string (⟨#[]⟩:ByteArray)]) (t:=28) W3 ?_;intro gb101 hg w16 hbox hb;have BK101:=z_ (hbox);have GW101:=z_ ((W0:w.heap.size ≤ gb101));have GE101:=z_ ((W0:w.heap.size ≤ gb101));replace HB:=z_ (below_step W5 hb);clear hb hbox hg)|((with_reducible refine gate_callee (f:=68) rfl ?_);refine goesL_ (some 39) rfl rfl Try.func68 (by kernel_rfl) rfl #[.int .i64 a1, .int .i64 a2] rfl W4 ?_;(with_reducible refine (Am0.calls a1 a2 t104 true _ A14.out).mono ?_);rintro e w' ⟨rfl,⟨nd,rfl⟩⟩;refine ⟨_,rfl,?_⟩;(try (rw [drewN_self w16];generalize hq_:World.drewN w16 _ = w16;have n0_:Aside0 (w16.heap[gb101]? = some (.cells #[.int .i64 0, .int .i64 0, .int .i64 0, .string (⟨#[]⟩:ByteArray)] 28 (0,0))):=⟨by rw [← hq_];exact zp2⟩;have n1_:Aside0 (Below w.heap.size w w16):=⟨by rw [← hq_];exact zp1⟩;clear BK101 HB hq_;have BK101:=n0_;have HB:=n1_;clear n0_ n1_));(try have hcu17_0:w16.cell? ⟨gb101,0,none⟩ = some (.int .i64 0):=(Oi BK101.out 0).trans rfl);(try have hcu17_1:w16.cell? ⟨gb101,1,none⟩ = some (.int .i64 0):=(Oi BK101.out 1).trans rfl);(try have hcu17_2:w16.cell? ⟨gb101,2,none⟩ = some (.int .i64 0):=(Oi BK101.out 2).trans rfl);(try have hcu17_3:w16.cell? ⟨gb101,3,none⟩ = some (.string (⟨#[]⟩:ByteArray)):=(Oi BK101.out 3).trans rfl);(try have hfu17_0:=S3 BK101.out 0);(try have hfu17_1:=S3 BK101.out 1);(try have hfu17_2:=S3 BK101.out 2);(try have hfu17_3:=S3 BK101.out 3);obtain ⟨_,_,_,_,_,_,_,_⟩:=Rr BK101.out))
    refine bodyPost_ret (results_ct rfl _ _ gb101 28 #[.int .i64 2, .int .i64 t104, .int .i64 0, .string (⟨#[]⟩:ByteArray)] (0,0) _ rfl (by (with_reducible repeat first|apply Jx|apply A7|apply K0);refine Tt (cs:=#[.int .i64 2, .int .i64 t104, .int .i64 0, .string (⟨#[]⟩:ByteArray)]) ?_ 3 _ rfl;(with_reducible repeat first|apply Jx|apply A7|apply K0);refine Tt (cs:=#[.int .i64 2, .int .i64 t104, .int .i64 0, .string (⟨#[]⟩:ByteArray)]) ?_ 2 _ rfl;(with_reducible repeat first|apply Jx|apply A7|apply K0);refine Tt (cs:=#[.int .i64 2, .int .i64 0, .int .i64 0, .string (⟨#[]⟩:ByteArray)]) ?_ 1 _ rfl;(with_reducible repeat first|apply Jx|apply A7|apply K0);refine Tt (cs:=#[.int .i64 0, .int .i64 0, .int .i64 0, .string (⟨#[]⟩:ByteArray)]) ?_ 0 _ rfl;(with_reducible repeat first|apply Jx|apply A7|apply K0);exact BK101.out) Try.underlying28 rfl (by kernel_rfl)) rfl ?_
    exact ⟨by first|rfl|(simp [errW_none,errW_some] <;> rfl)|(simp [*,errW_none,errW_some] <;> rfl),by repeat first|(with_reducible first|exact HB.out|apply zA|apply zN|apply z1|refine zS ?_ GE101.out)|exact HB.out⟩
   ·replace c15:=Bool.eq_false_iff.mpr c15
    subst c15
    have H1:(some (0,0,0,(⟨#[]⟩:ByteArray),10)) = some (r1,r2,r3,r4,r5):=by rw [if_neg (show ¬ (false = true) by decide)] at H;exact H
    clear H
    have H:=H1
    clear H1
    simp only [Option.some.injEq,Prod.mk.injEq] at H
    obtain ⟨rfl,rfl,rfl,rfl,rfl⟩:=H
    go_enter Try.func54,Try.ntmps54
    go_wp2_with (first|((with_reducible refine gate_dst (N:=6) rfl ?_);refine box_event (by rfl) (N:=6) (by rfl) (cs:=#[.int .i64 0, .int .i64 0, .int .i64 0, .string (⟨#[]⟩:ByteArray)]) (t:=28) W3 ?_;intro gb101 hg w19 hbox hb;have BK101:=z_ (hbox);have GW101:=z_ ((W0:w.heap.size ≤ gb101));have GE101:=z_ ((W0:w.heap.size ≤ gb101));replace HB:=z_ (below_step W5 hb);clear hb hbox hg)|((with_reducible refine gate_callee (f:=68) rfl ?_);refine goesL_ (some 39) rfl rfl Try.func68 (by kernel_rfl) rfl #[.int .i64 a1, .int .i64 a2] rfl W4 ?_;(with_reducible refine (Am0.calls a1 a2 t104 false _ A14.out).mono ?_);rintro e w' ⟨rfl,⟨nd,rfl⟩⟩;refine ⟨_,rfl,?_⟩;(try (rw [drewN_self w19];generalize hq_:World.drewN w19 _ = w19;have n0_:Aside0 (w19.heap[gb101]? = some (.cells #[.int .i64 0, .int .i64 0, .int .i64 0, .string (⟨#[]⟩:ByteArray)] 28 (0,0))):=⟨by rw [← hq_];exact zp2⟩;have n1_:Aside0 (Below w.heap.size w w19):=⟨by rw [← hq_];exact zp1⟩;clear BK101 HB hq_;have BK101:=n0_;have HB:=n1_;clear n0_ n1_));(try have hcu20_0:w19.cell? ⟨gb101,0,none⟩ = some (.int .i64 0):=(Oi BK101.out 0).trans rfl);(try have hcu20_1:w19.cell? ⟨gb101,1,none⟩ = some (.int .i64 0):=(Oi BK101.out 1).trans rfl);(try have hcu20_2:w19.cell? ⟨gb101,2,none⟩ = some (.int .i64 0):=(Oi BK101.out 2).trans rfl);(try have hcu20_3:w19.cell? ⟨gb101,3,none⟩ = some (.string (⟨#[]⟩:ByteArray)):=(Oi BK101.out 3).trans rfl);(try have hfu20_0:=S3 BK101.out 0);(try have hfu20_1:=S3 BK101.out 1);(try have hfu20_2:=S3 BK101.out 2);(try have hfu20_3:=S3 BK101.out 3);obtain ⟨_,_,_,_,_,_,_,_⟩:=Rr BK101.out))
    refine bodyPost_ret (results_ct rfl _ _ gb101 28 #[.int .i64 0, .int .i64 0, .int .i64 0, .string (⟨#[]⟩:ByteArray)] (0,0) _ rfl A21 Try.underlying28 rfl (by kernel_rfl)) rfl ?_
    exact ⟨by first|rfl|(simp [errW_none,errW_some] <;> rfl)|(simp [*,errW_none,errW_some] <;> rfl),by repeat first|(with_reducible first|exact HB.out|apply zA|apply zN|apply z1|refine zS ?_ GE101.out)|exact HB.out⟩
  ·rw [if_neg c13] at H
   have c13b0:(a0 == 6) = false:=beq_eq_false_iff_ne.mpr c13
   have c13b1:(a0 != 6) = true:=bne_iff_ne.mpr c13
   by_cases c22:((decide (a1 ≥ 0)) == (decide (a2 ≥ 0))) = true
   ·rw [if_pos c22] at H
    have c22b0:((decide (a1 ≥ 0)) == (decide (a2 ≥ 0))) = true:=c22
    (try (have c22b1:decide ((decide (a1 ≥ 0)) = (decide (a2 ≥ 0))) = true:=by simpa using c22))
    (try (have c22b2:((decide (a1 ≥ 0)) == (decide (a2 ≥ 0))) = true:=by simpa using c22))
    clear c22
    simp only [Option.some.injEq,Prod.mk.injEq] at H
    obtain ⟨rfl,rfl,rfl,rfl,rfl⟩:=H
    go_enter Try.func54,Try.ntmps54
    go_wp2_with (first|((with_reducible refine gate_dst (N:=6) rfl ?_);refine box_event (by rfl) (N:=6) (by rfl) (cs:=#[.int .i64 0, .int .i64 0, .int .i64 0, .string (⟨#[]⟩:ByteArray)]) (t:=28) W3 ?_;intro gb101 hg w23 hbox hb;have BK101:=z_ (hbox);have GW101:=z_ ((W0:w.heap.size ≤ gb101));have GE101:=z_ ((W0:w.heap.size ≤ gb101));replace HB:=z_ (below_step W5 hb);clear hb hbox hg;obtain ⟨_,_,_,_,_,_,_,_⟩:=Rr BK101.out))
    refine bodyPost_ret (results_ct rfl _ _ gb101 28 #[.int .i64 2, .int .i64 (wrap64 (a1 - a2)), .int .i64 0, .string (⟨#[]⟩:ByteArray)] (0,0) _ rfl A62 Try.underlying28 rfl (by kernel_rfl)) rfl ?_
    exact ⟨by first|rfl|(simp [errW_none,errW_some] <;> rfl)|(simp [*,errW_none,errW_some] <;> rfl),by repeat first|(with_reducible first|exact HB.out|apply zA|apply zN|apply z1|refine zS ?_ GE101.out)|exact HB.out⟩
   ·rw [if_neg c22] at H
    have c22b0:((decide (a1 ≥ 0)) == (decide (a2 ≥ 0))) = false:=by simpa using c22
    (try (have c22b1:decide ((decide (a1 ≥ 0)) = (decide (a2 ≥ 0))) = false:=by simpa using c22))
    (try (have c22b2:((decide (a1 ≥ 0)) == (decide (a2 ≥ 0))) = false:=by simpa using c22))
    (try (have c22b3:¬ ((decide (a1 ≥ 0)) = (decide (a2 ≥ 0))):=by simpa using c22))
    clear c22
    by_cases c25:(((decide ((wrap64 (a1 - a2)) ≥ 0)) == (decide (a1 ≥ 0))) = true)
    ·rw [if_pos c25] at H
     have c25b0:((decide ((wrap64 (a1 - a2)) ≥ 0)) == (decide (a1 ≥ 0))) = true:=c25
     (try (have c25b1:decide ((decide ((wrap64 (a1 - a2)) ≥ 0)) = (decide (a1 ≥ 0))) = true:=by simpa using c25))
     (try (have c25b2:((decide ((wrap64 (a1 - a2)) ≥ 0)) == (decide (a1 ≥ 0))) = true:=by simpa using c25))
     clear c25
     simp only [Option.some.injEq,Prod.mk.injEq] at H
     obtain ⟨rfl,rfl,rfl,rfl,rfl⟩:=H
     go_enter Try.func54,Try.ntmps54
     go_wp2_with (first|((with_reducible refine gate_dst (N:=6) rfl ?_);refine box_event (by rfl) (N:=6) (by rfl) (cs:=#[.int .i64 0, .int .i64 0, .int .i64 0, .string (⟨#[]⟩:ByteArray)]) (t:=28) W3 ?_;intro gb101 hg w26 hbox hb;have BK101:=z_ (hbox);have GW101:=z_ ((W0:w.heap.size ≤ gb101));have GE101:=z_ ((W0:w.heap.size ≤ gb101));replace HB:=z_ (below_step W5 hb);clear hb hbox hg;obtain ⟨_,_,_,_,_,_,_,_⟩:=Rr BK101.out))
     refine bodyPost_ret (results_ct rfl _ _ gb101 28 #[.int .i64 2, .int .i64 (wrap64 (a1 - a2)), .int .i64 0, .string (⟨#[]⟩:ByteArray)] (0,0) _ rfl A62 Try.underlying28 rfl (by kernel_rfl)) rfl ?_
     exact ⟨by first|rfl|(simp [errW_none,errW_some] <;> rfl)|(simp [*,errW_none,errW_some] <;> rfl),by repeat first|(with_reducible first|exact HB.out|apply zA|apply zN|apply z1|refine zS ?_ GE101.out)|exact HB.out⟩
    ·rw [if_neg c25] at H
     have c25b0:((decide ((wrap64 (a1 - a2)) ≥ 0)) == (decide (a1 ≥ 0))) = false:=by simpa using c25
     (try (have c25b1:decide ((decide ((wrap64 (a1 - a2)) ≥ 0)) = (decide (a1 ≥ 0))) = false:=by simpa using c25))
     (try (have c25b2:((decide ((wrap64 (a1 - a2)) ≥ 0)) == (decide (a1 ≥ 0))) = false:=by simpa using c25))
     (try (have c25b3:¬ ((decide ((wrap64 (a1 - a2)) ≥ 0)) = (decide (a1 ≥ 0))):=by simpa using c25))
     clear c25
     simp only [Option.some.injEq,Prod.mk.injEq] at H
     obtain ⟨rfl,rfl,rfl,rfl,rfl⟩:=H
     go_enter Try.func54,Try.ntmps54
     go_wp2_with (first|((with_reducible refine gate_dst (N:=6) rfl ?_);refine box_event (by rfl) (N:=6) (by rfl) (cs:=#[.int .i64 0, .int .i64 0, .int .i64 0, .string (⟨#[]⟩:ByteArray)]) (t:=28) W3 ?_;intro gb101 hg w28 hbox hb;have BK101:=z_ (hbox);have GW101:=z_ ((W0:w.heap.size ≤ gb101));have GE101:=z_ ((W0:w.heap.size ≤ gb101));replace HB:=z_ (below_step W5 hb);clear hb hbox hg;obtain ⟨_,_,_,_,_,_,_,_⟩:=Rr BK101.out))
     refine bodyPost_ret (results_ct rfl _ _ gb101 28 #[.int .i64 0, .int .i64 0, .int .i64 0, .string (⟨#[]⟩:ByteArray)] (0,0) _ rfl A21 Try.underlying28 rfl (by kernel_rfl)) rfl ?_
     exact ⟨by first|rfl|(simp [errW_none,errW_some] <;> rfl)|(simp [*,errW_none,errW_some] <;> rfl),by repeat first|(with_reducible first|exact HB.out|apply zA|apply zN|apply z1|refine zS ?_ GE101.out)|exact HB.out⟩
end Go.Proofs.Ytglffgneikoeaaa.M
namespace Go.Proofs.Ytglffgneikoeaaa.M
open Go.RowKit Go.Proofs.YtglffgneikoeaaaW.PrintWords Go.Proofs.YtglffgneikoeaaaW.PrintLast Go.Proofs.YtglffgneikoeaaaW.PrintMore
attribute [local go_sem] max2_int min2_int max_two min_two max_three min_three max_four min_four
attribute [local go_sem high] own_gtr own_leq own_geq own_cell_set Option.map_some
set_option linter.unusedVariables false
set_option linter.unusedSimpArgs false
mutual
def Ad0.l0:Nat → Int → Int → Option (Int × Int × Int × ByteArray × Int)
 | 0,_,_=>none
 | k + 1,x0,x1=>if x1 < 0 then ((Ad7.f k 6).bind fun t102=>(Ad0.l0 k (wrap64 (x0 - 1)) (wrap64 (x1 + t102)))) else (Ad0.l1 k x0 x1)
def Ad0.l1:Nat → Int → Int → Option (Int × Int × Int × ByteArray × Int)
 | 0,_,_=>none
 | k + 1,x0,x1=>(Ad7.f k 6).bind fun t103=>(if x1 ≥ t103 then ((Ad7.f k 6).bind fun t104=>(Ad0.l1 k (wrap64 (x0 + 1)) (wrap64 (x1 - t104)))) else (Ad0.l2 k x0 x1 6))
def Ad0.j3:Nat → Int → Int → Int → Option (Int × Int × Int × ByteArray × Int)
 | 0,_,_,_=>none
 | k + 1,x0,x1,x6=>if x0 ≤ (-1000000000000000) then (Ad0.j4 k x0 x1 x6 true) else (if x0 ≥ 1000000000000000 then (Ad0.j4 k x0 x1 x6 true) else ((Ad7.f k x6).bind fun t105=>(if t105 = 0 then (none) else (if x0 > (wrap64 (Int.tdiv (1000000000000000:Int) t105)) then (Ad0.j4 k x0 x1 x6 true) else ((Ad7.f k x6).bind fun t106=>(if t106 = 0 then (none) else (Ad0.j4 k x0 x1 x6 (decide (x0 < (wrap64 ((wrap64 (-(wrap64 (Int.tdiv (1000000000000000:Int) t106)))) - 1)))))))))))
def Ad0.j4:Nat → Int → Int → Int → Bool → Option (Int × Int × Int × ByteArray × Int)
 | 0,_,_,_,_=>none
 | k + 1,x0,x1,x6,x55=>if x55 = true then (some (0,0,0,(⟨#[]⟩:ByteArray),10)) else ((Ad7.f k x6).bind fun t107=>((federationref1_Norm.f k 3 (wrap64 ((wrap64 (x0 * t107)) + x1)) x6 (⟨#[]⟩:ByteArray)).bind fun bt108=>((Amj.f k bt108.1 bt108.2.1 bt108.2.2.1 bt108.2.2.2).bind fun t113=>(if t113 = true then (some (bt108.1,bt108.2.1,bt108.2.2.1,bt108.2.2.2,0)) else (some (0,0,0,(⟨#[]⟩:ByteArray),10))))))
def Ad0.l2:Nat → Int → Int → Int → Option (Int × Int × Int × ByteArray × Int)
 | 0,_,_,_=>none
 | k + 1,x0,x1,x6=>if x6 > 0 then (if (Int.tmod x1 10) = 0 then (Ad0.l2 k x0 (wrap64 (Int.tdiv x1 10)) (wrap64 (x6 - 1))) else (Ad0.j3 k x0 x1 x6)) else (Ad0.j3 k x0 x1 x6)
end
def Ad0.f (k:Nat) (a0:Int) (a1:Int):Option (Int × Int × Int × ByteArray × Int):=Ad0.l0 k a0 a1
set_option maxHeartbeats 8000000 in
set_option maxRecDepth 100000 in
theorem Ad0.calls (k:Nat) (a0:Int) (a1:Int) (r1:Int) (r2:Int) (r3:Int) (r4:ByteArray) (r5:Int) (w:World) (h:Ad0.f k a0 a1 = some (r1,r2,r3,r4,r5)) :
  Calls Try.prog 70 #[.int .i64 a0, .int .i64 a1] w fun e w'=>e = .returned (.tuple #[.agg #[.int .i64 r1, .int .i64 r2, .int .i64 r3, .string r4], .int .i64 r5]) ∧ Below w.heap.size w w':=by
 have hu28:=Try.underlying28
 have HB:=z_ (Below.refl w.heap.size w)
 have H:(Ad0.l0 k a0 a1) = some (r1,r2,r3,r4,r5):=h
 clear h
 have H':=z_ H
 clear H
 go_enter Try.func70,Try.ntmps70
 go_wp2_with (first|((with_reducible refine gate_dst (N:=4) rfl ?_);refine box_event (by rfl) (N:=4) (by rfl) (cs:=#[.int .i64 0, .int .i64 0, .int .i64 0, .string (⟨#[]⟩:ByteArray)]) (t:=28) W3 ?_;intro gb101 hg w3 hbox hb;have BK101:=z_ (hbox);have GW101:=z_ ((W0:w.heap.size ≤ gb101));have GE101:=z_ ((W0:w.heap.size ≤ gb101));replace HB:=z_ (below_step W5 hb);clear hb hbox hg))
 go_loopg [0,1] k (fun kq v0 v1 w'=>∃ (x0_1:Int) (x1_1:Int),v0 = .int .i64 x0_1 ∧ v1 = .int .i64 x1_1 ∧ Aside0 (Ad0.l0 kq x0_1 x1_1 = some (r1,r2,r3,r4,r5)) ∧ Aside0 (kq ≤ k) ∧ Aside0 (w'.heap[gb101]? = some (.cells #[.int .i64 0, .int .i64 0, .int .i64 0, .string (⟨#[]⟩:ByteArray)] 28 (0,0))) ∧ Aside0 (Below w.heap.size w w'))
 case atStart=>exact ⟨(a0),(a1),Adz,Adz,H',⟨Nat.le_refl _⟩,⟨by (with_reducible repeat first|apply Jx|apply A7|apply K0);exact BK101.out⟩,⟨by repeat first|(with_reducible first|exact HB.out|apply zA|apply zN|apply z1|refine zS ?_ GE101.out)|exact HB.out⟩⟩
 case round =>
  clear H'
  try clear p2
  obtain ⟨x0_1,x1_1,rfl,rfl,HA,HK1,BK101,HB⟩:=hrel
  cases gk with
  | zero=>exact absurd HA.out (by simp [Ad0.l0])
  | succ k1 =>
   have H:=HA.out
   clear HA
   simp only [Ad0.l0] at H
   by_cases c4:x1_1 < 0
   ·rw [if_pos c4] at H
    have c4b0:decide (x1_1 < 0) = true:=decide_eq_true c4
    clear c4
    replace H:=Option.bind_eq_some_iff.mp H
    obtain ⟨t102,A50,H⟩:=H
    replace H:(Ad0.l0 k1 (wrap64 (x0_1 - 1)) (wrap64 (x1_1 + t102))) = some (r1,r2,r3,r4,r5):=H
    have A5:=z_ A50
    clear A50
    have H':=z_ H
    clear H
    go_wp2_with (first|((with_reducible refine gate_callee (f:=77) rfl ?_);refine goesL_ (some 13) rfl rfl Try.func77 (by kernel_rfl) rfl #[.int .i64 6] rfl W4 ?_;(with_reducible refine (Ad7.calls k1 6 t102 _ A5.out).mono ?_);rintro e w' ⟨rfl,⟨nd,rfl⟩⟩;refine ⟨_,rfl,?_⟩))
    go_roundg k1
    case measure=>have:=HK1.out;omega
    case rel=>exact ⟨(wrap64 (x0_1 - 1)),(wrap64 (x1_1 + t102)),Adz,Adz,H',⟨by have:=HK1.out;omega⟩,⟨by (with_reducible repeat first|apply Jx|apply A7|apply K0);exact BK101.out⟩,⟨by repeat first|(with_reducible first|exact HB.out|apply zA|apply zN|apply z1|refine zS ?_ GE101.out)|exact HB.out⟩⟩
   ·rw [if_neg c4] at H
    have c4b0:decide (x1_1 < 0) = false:=decide_eq_false c4
    clear c4
    have H':=z_ H
    clear H
    go_wp2
    go_loopg [0,1] k1 (fun kq v0 v1 w'=>∃ (x0_2:Int) (x1_2:Int),v0 = .int .i64 x0_2 ∧ v1 = .int .i64 x1_2 ∧ Aside0 (Ad0.l1 kq x0_2 x1_2 = some (r1,r2,r3,r4,r5)) ∧ Aside0 (kq ≤ k1) ∧ Aside0 (w'.heap[gb101]? = some (.cells #[.int .i64 0, .int .i64 0, .int .i64 0, .string (⟨#[]⟩:ByteArray)] 28 (0,0))) ∧ Aside0 (Below w.heap.size w w'))
    case atStart=>exact ⟨(x0_1),(x1_1),Adz,Adz,H',⟨Nat.le_refl _⟩,⟨by (with_reducible repeat first|apply Jx|apply A7|apply K0);exact BK101.out⟩,⟨by repeat first|(with_reducible first|exact HB.out|apply zA|apply zN|apply z1|refine zS ?_ GE101.out)|exact HB.out⟩⟩
    case round =>
     clear H'
     try clear p2
     try clear c4
     try clear c4b0
     try clear p2
     obtain ⟨x0_2,x1_2,rfl,rfl,HA,HK2,BK101,HB⟩:=hrel
     cases gk with
     | zero=>exact absurd HA.out (by simp [Ad0.l1])
     | succ k2 =>
      have H:=HA.out
      clear HA
      simp only [Ad0.l1] at H
      replace H:=Option.bind_eq_some_iff.mp H
      obtain ⟨t103,A60,H⟩:=H
      replace H:(if x1_2 ≥ t103 then ((Ad7.f k2 6).bind fun t104=>(Ad0.l1 k2 (wrap64 (x0_2 + 1)) (wrap64 (x1_2 - t104)))) else (Ad0.l2 k2 x0_2 x1_2 6)) = some (r1,r2,r3,r4,r5):=H
      have A6:=z_ A60
      clear A60
      by_cases c7:x1_2 ≥ t103
      ·rw [if_pos c7] at H
       have c7b0:decide (t103 ≤ x1_2) = true:=decide_eq_true c7
       clear c7
       replace H:=Option.bind_eq_some_iff.mp H
       obtain ⟨t104,A80,H⟩:=H
       replace H:(Ad0.l1 k2 (wrap64 (x0_2 + 1)) (wrap64 (x1_2 - t104))) = some (r1,r2,r3,r4,r5):=H
       have A8:=z_ A80
       clear A80
       have H':=z_ H
       clear H
       go_wp2_with (first|((with_reducible refine gate_callee (f:=77) rfl ?_);refine goesL_ (some 16) rfl rfl Try.func77 (by kernel_rfl) rfl #[.int .i64 6] rfl W4 ?_;(with_reducible refine (Ad7.calls k2 6 t103 _ A6.out).mono ?_);rintro e w' ⟨rfl,⟨nd,rfl⟩⟩;refine ⟨_,rfl,?_⟩)|((with_reducible refine gate_callee (f:=77) rfl ?_);refine goesL_ (some 21) rfl rfl Try.func77 (by kernel_rfl) rfl #[.int .i64 6] rfl W4 ?_;(with_reducible refine (Ad7.calls k2 6 t104 _ A8.out).mono ?_);rintro e w' ⟨rfl,⟨nd,rfl⟩⟩;refine ⟨_,rfl,?_⟩))
       go_roundg k2
       case measure=>have:=HK1.out;have:=HK2.out;omega
       case rel=>exact ⟨(wrap64 (x0_2 + 1)),(wrap64 (x1_2 - t104)),Adz,Adz,H',⟨by have:=HK1.out;have:=HK2.out;omega⟩,⟨by (with_reducible repeat first|apply Jx|apply A7|apply K0);exact BK101.out⟩,⟨by repeat first|(with_reducible first|exact HB.out|apply zA|apply zN|apply z1|refine zS ?_ GE101.out)|exact HB.out⟩⟩
      ·rw [if_neg c7] at H
       have c7b0:decide (t103 ≤ x1_2) = false:=decide_eq_false c7
       clear c7
       have HC9:=z_ H
       clear H
       go_upto_block 4 with (first|((with_reducible refine gate_callee (f:=77) rfl ?_);refine goesL_ (some 16) rfl rfl Try.func77 (by kernel_rfl) rfl #[.int .i64 6] rfl W4 ?_;(with_reducible refine (Ad7.calls k2 6 t103 _ A6.out).mono ?_);rintro e w' ⟨rfl,⟨nd,rfl⟩⟩;refine ⟨_,rfl,?_⟩))
       (try simp only [Act.put,List.setIfInBounds_toArray,List.set_cons_zero,List.set_cons_succ])
       go_cut [1,6] (fun v1 v6 wc=>∃ (kq:Nat) (x1_8:Int) (x6_8:Int),v1 = .int .i64 x1_8 ∧ v6 = .int .i64 x6_8 ∧ Aside0 (Ad0.j3 kq x0_2 x1_8 x6_8 = some (r1,r2,r3,r4,r5)) ∧ Aside0 (kq ≤ k2) ∧ Aside0 (wc.heap[gb101]? = some (.cells #[.int .i64 0, .int .i64 0, .int .i64 0, .string (⟨#[]⟩:ByteArray)] 28 (0,0))) ∧ Aside0 (Below w.heap.size w wc))
       case first =>
        have H:=HC9.out
        clear HC9
        have H':=z_ H
        clear H
        go_wp2
        go_loopg [1,6] k2 (fun kq v1 v6 w'=>∃ (x1_3:Int) (x6_3:Int),v1 = .int .i64 x1_3 ∧ v6 = .int .i64 x6_3 ∧ Aside0 (Ad0.l2 kq x0_2 x1_3 x6_3 = some (r1,r2,r3,r4,r5)) ∧ Aside0 (kq ≤ k2) ∧ Aside0 (w'.heap[gb101]? = some (.cells #[.int .i64 0, .int .i64 0, .int .i64 0, .string (⟨#[]⟩:ByteArray)] 28 (0,0))) ∧ Aside0 (Below w.heap.size w w'))
        case atStart=>exact ⟨(x1_2),(6),Adz,Adz,H',⟨Nat.le_refl _⟩,⟨by (with_reducible repeat first|apply Jx|apply A7|apply K0);exact BK101.out⟩,⟨by repeat first|(with_reducible first|exact HB.out|apply zA|apply zN|apply z1|refine zS ?_ GE101.out)|exact HB.out⟩⟩
        case round =>
         clear H'
         try clear p2
         try clear c4
         try clear c4b0
         try clear p6
         try clear c7
         try clear c7b0
         try clear p2
         obtain ⟨x1_3,x6_3,rfl,rfl,HA,HK3,BK101,HB⟩:=hrel
         cases gk with
         | zero=>exact absurd HA.out (by simp [Ad0.l2])
         | succ k3 =>
          have H:=HA.out
          clear HA
          simp only [Ad0.l2] at H
          by_cases c10:x6_3 > 0
          ·rw [if_pos c10] at H
           have c10b0:decide (0 < x6_3) = true:=decide_eq_true c10
           clear c10
           (first|rw [c10b0]|(simp only [i64_w,i32_w];rw [c10b0])|skip)
           by_cases c11:(Int.tmod x1_3 10) = 0
           ·rw [if_pos c11] at H
            have c11b0:((Int.tmod x1_3 10) == 0) = true:=beq_iff_eq.mpr c11
            have c11b1:((Int.tmod x1_3 10) != 0) = false:=bne_eq_false_iff_eq.mpr c11
            clear c11
            have H':=z_ H
            clear H
            go_wp2
            go_roundg k3
            case measure=>have:=HK1.out;have:=HK2.out;have:=HK3.out;omega
            case rel=>exact ⟨(wrap64 (Int.tdiv x1_3 10)),(wrap64 (x6_3 - 1)),Adz,Adz,H',⟨by have:=HK1.out;have:=HK2.out;have:=HK3.out;omega⟩,⟨by (with_reducible repeat first|apply Jx|apply A7|apply K0);exact BK101.out⟩,⟨by repeat first|(with_reducible first|exact HB.out|apply zA|apply zN|apply z1|refine zS ?_ GE101.out)|exact HB.out⟩⟩
           ·rw [if_neg c11] at H
            have c11b0:((Int.tmod x1_3 10) == 0) = false:=beq_eq_false_iff_ne.mpr c11
            have c11b1:((Int.tmod x1_3 10) != 0) = true:=bne_iff_ne.mpr c11
            have H':=z_ H
            clear H
            go_wp2
            go_meet
            case rel=>exact ⟨_,(x1_3),(x6_3),Adz,Adz,H',⟨by have:=HK1.out;have:=HK2.out;have:=HK3.out;first|omega|exact Nat.le_refl _⟩,⟨by (with_reducible repeat first|apply Jx|apply A7|apply K0);exact BK101.out⟩,⟨by repeat first|(with_reducible first|exact HB.out|apply zA|apply zN|apply z1|refine zS ?_ GE101.out)|exact HB.out⟩⟩
          ·rw [if_neg c10] at H
           have c10b0:decide (0 < x6_3) = false:=decide_eq_false c10
           clear c10
           (first|rw [c10b0]|(simp only [i64_w,i32_w];rw [c10b0])|skip)
           have H':=z_ H
           clear H
           go_wp2
           go_meet
           case rel=>exact ⟨_,(x1_3),(x6_3),Adz,Adz,H',⟨by have:=HK1.out;have:=HK2.out;have:=HK3.out;first|omega|exact Nat.le_refl _⟩,⟨by (with_reducible repeat first|apply Jx|apply A7|apply K0);exact BK101.out⟩,⟨by repeat first|(with_reducible first|exact HB.out|apply zA|apply zN|apply z1|refine zS ?_ GE101.out)|exact HB.out⟩⟩
       case rest =>
        clear HC9
        try clear c1
        try clear p2
        try clear c4
        try clear c4b0
        try clear p6
        try clear c7
        try clear c7b0
        try clear c10
        try clear c10b0
        try clear c11
        try clear c11b0
        try clear c11b1
        try clear p2
        try clear p6
        obtain ⟨kq,x1_8,x6_8,rfl,rfl,HA,HJ8,BK101,HB⟩:=hcut
        cases kq with
        | zero=>exact absurd HA.out (by simp [Ad0.j3])
        | succ kj8 =>
         have H:=HA.out
         clear HA
         simp only [Ad0.j3] at H
         have HC12:=z_ H
         clear H
         go_upto_region 8 with (fail)
         go_cut [55] (fun v55 wc=>∃ (kq:Nat) (x55_11:Bool),v55 = .bool x55_11 ∧ Aside0 (Ad0.j4 kq x0_2 x1_8 x6_8 x55_11 = some (r1,r2,r3,r4,r5)) ∧ Aside0 (kq ≤ kj8) ∧ Aside0 (wc.heap[gb101]? = some (.cells #[.int .i64 0, .int .i64 0, .int .i64 0, .string (⟨#[]⟩:ByteArray)] 28 (0,0))) ∧ Aside0 (Below w.heap.size w wc))
         case first =>
          have H:=HC12.out
          clear HC12
          by_cases c13:x0_2 ≤ (-1000000000000000)
          ·rw [if_pos c13] at H
           have c13b0:decide (x0_2 ≤ (-1000000000000000)) = true:=decide_eq_true c13
           clear c13
           (first|rw [c13b0]|(simp only [i64_w,i32_w];rw [c13b0])|skip)
           have H':=z_ H
           clear H
           go_wp2
           go_meet
           case rel=>exact ⟨_,(true),Adz,H',⟨by have:=HK1.out;have:=HK2.out;have:=HJ8.out;first|omega|exact Nat.le_refl _⟩,⟨by (with_reducible repeat first|apply Jx|apply A7|apply K0);exact BK101.out⟩,⟨by repeat first|(with_reducible first|exact HB.out|apply zA|apply zN|apply z1|refine zS ?_ GE101.out)|exact HB.out⟩⟩
          ·rw [if_neg c13] at H
           have c13b0:decide (x0_2 ≤ (-1000000000000000)) = false:=decide_eq_false c13
           clear c13
           (first|rw [c13b0]|(simp only [i64_w,i32_w];rw [c13b0])|skip)
           by_cases c14:x0_2 ≥ 1000000000000000
           ·rw [if_pos c14] at H
            have c14b0:decide (1000000000000000 ≤ x0_2) = true:=decide_eq_true c14
            clear c14
            have H':=z_ H
            clear H
            go_wp2
            go_meet
            case rel=>exact ⟨_,(true),Adz,H',⟨by have:=HK1.out;have:=HK2.out;have:=HJ8.out;first|omega|exact Nat.le_refl _⟩,⟨by (with_reducible repeat first|apply Jx|apply A7|apply K0);exact BK101.out⟩,⟨by repeat first|(with_reducible first|exact HB.out|apply zA|apply zN|apply z1|refine zS ?_ GE101.out)|exact HB.out⟩⟩
           ·rw [if_neg c14] at H
            have c14b0:decide (1000000000000000 ≤ x0_2) = false:=decide_eq_false c14
            clear c14
            replace H:=Option.bind_eq_some_iff.mp H
            obtain ⟨t105,A150,H⟩:=H
            replace H:(if t105 = 0 then (none) else (if x0_2 > (wrap64 (Int.tdiv (1000000000000000:Int) t105)) then (Ad0.j4 kj8 x0_2 x1_8 x6_8 true) else ((Ad7.f kj8 x6_8).bind fun t106=>(if t106 = 0 then (none) else (Ad0.j4 kj8 x0_2 x1_8 x6_8 (decide (x0_2 < (wrap64 ((wrap64 (-(wrap64 (Int.tdiv (1000000000000000:Int) t106)))) - 1))))))))) = some (r1,r2,r3,r4,r5):=H
            have A15:=z_ A150
            clear A150
            by_cases c16:t105 = 0
            ·rw [if_pos c16] at H
             exact absurd H (by simp)
            ·rw [if_neg c16] at H
             have c16b0:(t105 == 0) = false:=beq_eq_false_iff_ne.mpr c16
             have c16b1:(t105 != 0) = true:=bne_iff_ne.mpr c16
             by_cases c17:x0_2 > (wrap64 (Int.tdiv (1000000000000000:Int) t105))
             ·rw [if_pos c17] at H
              have c17b0:decide ((wrap64 (Int.tdiv (1000000000000000:Int) t105)) < x0_2) = true:=decide_eq_true c17
              clear c17
              have H':=z_ H
              clear H
              go_wp2_with (first|(go_at_call 77;(with_reducible refine (Ad7.calls kj8 x6_8 t105 _ A15.out).mono ?_);rintro e w' ⟨rfl,⟨nd,rfl⟩⟩))
              go_meet
              case rel=>exact ⟨_,(true),Adz,H',⟨by have:=HK1.out;have:=HK2.out;have:=HJ8.out;first|omega|exact Nat.le_refl _⟩,⟨by (with_reducible repeat first|apply Jx|apply A7|apply K0);exact BK101.out⟩,⟨by repeat first|(with_reducible first|exact HB.out|apply zA|apply zN|apply z1|refine zS ?_ GE101.out)|exact HB.out⟩⟩
             ·rw [if_neg c17] at H
              have c17b0:decide ((wrap64 (Int.tdiv (1000000000000000:Int) t105)) < x0_2) = false:=decide_eq_false c17
              clear c17
              replace H:=Option.bind_eq_some_iff.mp H
              obtain ⟨t106,A180,H⟩:=H
              replace H:(if t106 = 0 then (none) else (Ad0.j4 kj8 x0_2 x1_8 x6_8 (decide (x0_2 < (wrap64 ((wrap64 (-(wrap64 (Int.tdiv (1000000000000000:Int) t106)))) - 1)))))) = some (r1,r2,r3,r4,r5):=H
              have A18:=z_ A180
              clear A180
              by_cases c19:t106 = 0
              ·rw [if_pos c19] at H
               exact absurd H (by simp)
              ·rw [if_neg c19] at H
               have c19b0:(t106 == 0) = false:=beq_eq_false_iff_ne.mpr c19
               have c19b1:(t106 != 0) = true:=bne_iff_ne.mpr c19
               have H':=z_ H
               clear H
               (try have e_t106:t106 = t105:=Option.some.inj (A18.out.symm.trans A15.out))
               go_wp2_with (first|(go_at_call 77;(with_reducible refine (Ad7.calls kj8 x6_8 t105 _ A15.out).mono ?_);rintro e w' ⟨rfl,⟨nd,rfl⟩⟩)|(go_at_call 77;(with_reducible refine (Ad7.calls kj8 x6_8 t106 _ A18.out).mono ?_);rintro e w' ⟨rfl,⟨nd,rfl⟩⟩))
               go_meet
               case rel=>exact ⟨_,(decide (x0_2 < (wrap64 ((wrap64 (-(wrap64 (Int.tdiv (1000000000000000:Int) t106)))) - 1)))),Adz,H',⟨by have:=HK1.out;have:=HK2.out;have:=HJ8.out;first|omega|exact Nat.le_refl _⟩,⟨by (with_reducible repeat first|apply Jx|apply A7|apply K0);exact BK101.out⟩,⟨by repeat first|(with_reducible first|exact HB.out|apply zA|apply zN|apply z1|refine zS ?_ GE101.out)|exact HB.out⟩⟩
         case rest =>
          clear HC12
          try clear c1
          try clear p2
          try clear c4
          try clear c4b0
          try clear p6
          try clear c7
          try clear c7b0
          try clear c10
          try clear c10b0
          try clear c11
          try clear c11b0
          try clear c11b1
          try clear c13
          try clear c13b0
          try clear c14
          try clear c14b0
          try clear c16
          try clear c16b0
          try clear c16b1
          try clear c17
          try clear c17b0
          try clear c19
          try clear c19b0
          try clear c19b1
          try clear p2
          try clear p6
          obtain ⟨kq,x55_11,rfl,HA,HJ11,BK101,HB⟩:=hcut
          cases kq with
          | zero=>exact absurd HA.out (by simp [Ad0.j4])
          | succ kj11 =>
           have H:=HA.out
           clear HA
           simp only [Ad0.j4] at H
           by_cases c20:x55_11 = true
           ·subst c20
            have H1:(some (0,0,0,(⟨#[]⟩:ByteArray),10)) = some (r1,r2,r3,r4,r5):=by rw [if_pos rfl] at H;exact H
            clear H
            have H:=H1
            clear H1
            simp only [Option.some.injEq,Prod.mk.injEq] at H
            obtain ⟨rfl,rfl,rfl,rfl,rfl⟩:=H
            obtain ⟨_,_,_,_,_,_,_,_⟩:=Rr BK101.out
            go_wp2
            refine bodyPost_ret (results_ct rfl _ _ gb101 28 #[.int .i64 0, .int .i64 0, .int .i64 0, .string (⟨#[]⟩:ByteArray)] (0,0) _ rfl A21 Try.underlying28 rfl (by kernel_rfl)) rfl ?_
            exact ⟨by first|rfl|(simp [errW_none,errW_some] <;> rfl)|(simp [*,errW_none,errW_some] <;> rfl),by repeat first|(with_reducible first|exact HB.out|apply zA|apply zN|apply z1|refine zS ?_ GE101.out)|exact HB.out⟩
           ·replace c20:=Bool.eq_false_iff.mpr c20
            subst c20
            have H1:((Ad7.f kj11 x6_8).bind fun t107=>((federationref1_Norm.f kj11 3 (wrap64 ((wrap64 (x0_2 * t107)) + x1_8)) x6_8 (⟨#[]⟩:ByteArray)).bind fun bt108=>((Amj.f kj11 bt108.1 bt108.2.1 bt108.2.2.1 bt108.2.2.2).bind fun t113=>(if t113 = true then (some (bt108.1,bt108.2.1,bt108.2.2.1,bt108.2.2.2,0)) else (some (0,0,0,(⟨#[]⟩:ByteArray),10)))))) = some (r1,r2,r3,r4,r5):=by rw [if_neg (show ¬ (false = true) by decide)] at H;exact H
            clear H
            have H:=H1
            clear H1
            replace H:=Option.bind_eq_some_iff.mp H
            obtain ⟨t107,A220,H⟩:=H
            replace H:((federationref1_Norm.f kj11 3 (wrap64 ((wrap64 (x0_2 * t107)) + x1_8)) x6_8 (⟨#[]⟩:ByteArray)).bind fun bt108=>((Amj.f kj11 bt108.1 bt108.2.1 bt108.2.2.1 bt108.2.2.2).bind fun t113=>(if t113 = true then (some (bt108.1,bt108.2.1,bt108.2.2.1,bt108.2.2.2,0)) else (some (0,0,0,(⟨#[]⟩:ByteArray),10))))) = some (r1,r2,r3,r4,r5):=H
            have A22:=z_ A220
            clear A220
            replace H:=Option.bind_eq_some_iff.mp H
            obtain ⟨⟨t108,t109,t110,t111⟩,A230,H⟩:=H
            replace H:((Amj.f kj11 t108 t109 t110 t111).bind fun t113=>(if t113 = true then (some (t108,t109,t110,t111,0)) else (some (0,0,0,(⟨#[]⟩:ByteArray),10)))) = some (r1,r2,r3,r4,r5):=H
            have A23:=z_ A230
            clear A230
            replace H:=Option.bind_eq_some_iff.mp H
            obtain ⟨t113,A240,H⟩:=H
            replace H:(if t113 = true then (some (t108,t109,t110,t111,0)) else (some (0,0,0,(⟨#[]⟩:ByteArray),10))) = some (r1,r2,r3,r4,r5):=H
            have A24:=z_ A240
            clear A240
            by_cases c25:t113 = true
            ·subst c25
             have H1:(some (t108,t109,t110,t111,0)) = some (r1,r2,r3,r4,r5):=by rw [if_pos rfl] at H;exact H
             clear H
             have H:=H1
             clear H1
             simp only [Option.some.injEq,Prod.mk.injEq] at H
             obtain ⟨rfl,rfl,rfl,rfl,rfl⟩:=H
             go_wp2_with (first|((with_reducible refine gate_callee (f:=77) rfl ?_);refine goesL_ (some 59) rfl rfl Try.func77 (by kernel_rfl) rfl #[.int .i64 x6_8] rfl W4 ?_;(with_reducible refine (Ad7.calls kj11 x6_8 t107 _ A22.out).mono ?_);rintro e w' ⟨rfl,⟨nd,rfl⟩⟩;refine ⟨_,rfl,?_⟩;(try (rw [drewN_self wc];generalize hq_:World.drewN wc _ = wc;have n0_:Aside0 (wc.heap[gb101]? = some (.cells #[.int .i64 0, .int .i64 0, .int .i64 0, .string (⟨#[]⟩:ByteArray)] 28 (0,0))):=⟨by rw [← hq_];exact zp2⟩;have n1_:Aside0 (Below w.heap.size w wc):=⟨by rw [← hq_];exact zp1⟩;clear BK101 HB hq_;have BK101:=n0_;have HB:=n1_;clear n0_ n1_));(try have hcu26_0:wc.cell? ⟨gb101,0,none⟩ = some (.int .i64 0):=(Oi BK101.out 0).trans rfl);(try have hcu26_1:wc.cell? ⟨gb101,1,none⟩ = some (.int .i64 0):=(Oi BK101.out 1).trans rfl);(try have hcu26_2:wc.cell? ⟨gb101,2,none⟩ = some (.int .i64 0):=(Oi BK101.out 2).trans rfl);(try have hcu26_3:wc.cell? ⟨gb101,3,none⟩ = some (.string (⟨#[]⟩:ByteArray)):=(Oi BK101.out 3).trans rfl);(try have hfu26_0:=S3 BK101.out 0);(try have hfu26_1:=S3 BK101.out 1);(try have hfu26_2:=S3 BK101.out 2);(try have hfu26_3:=S3 BK101.out 3))|((with_reducible refine gate_callee (f:=59) rfl ?_);refine goesL_ (some 65) rfl rfl Try.func59 (by kernel_rfl) rfl #[.agg #[.int .i64 3, .int .i64 (wrap64 ((wrap64 (x0_2 * t107)) + x1_8)), .int .i64 x6_8, .string (⟨#[]⟩:ByteArray)]] rfl W4 ?_;(with_reducible refine (federationref1_Norm.calls kj11 3 (wrap64 ((wrap64 (x0_2 * t107)) + x1_8)) x6_8 (⟨#[]⟩:ByteArray) t108 t109 t110 t111 _ A23.out).mono ?_);rintro e w27 ⟨rfl,hb⟩;refine ⟨_,rfl,?_⟩;replace BK101:=z_ (zk BK101.out hb);replace HB:=z_ (below_step zp1 hb);(try clear hb);(try clear hb2);(try clear hk);(try clear hi))|((with_reducible refine gate_dst (N:=7) rfl ?_);refine box_event (by rfl) (N:=7) (by rfl) (cs:=#[.int .i64 0, .int .i64 0, .int .i64 0, .string (⟨#[]⟩:ByteArray)]) (t:=28) W3 ?_;intro gb112 hg w28 hbox hb;have BK112:=z_ (hbox);have GW112:=z_ ((W6:w.heap.size ≤ gb112));have GE112:=z_ ((W6:w.heap.size ≤ gb112));replace HB:=z_ (below_step zp1 hb);have NB101_112:=z_ ((A2h:gb101 ≠ gb112));have NB112_101:=z_ ((A2g:gb112 ≠ gb101));replace BK101:=z_ (zk BK101.out hb);clear hb hbox hg;have hnb29:=NB112_101.out;have hnc29:=NB101_112.out;obtain ⟨_,_,_,_,_,_,_,_⟩:=Rr BK112.out)|((with_reducible refine gate_callee (f:=21) rfl ?_);refine goesL_ (some 67) rfl rfl Try.func21 (by kernel_rfl) rfl #[.agg #[.int .i64 t108, .int .i64 t109, .int .i64 t110, .string t111]] rfl W4 ?_;(with_reducible refine (Amj.calls kj11 t108 t109 t110 t111 true _ A24.out).mono ?_);rintro e w31 ⟨rfl,hb⟩;refine ⟨_,rfl,?_⟩;replace BK101:=z_ (zbb (g:=gb101) (o:=.cells #[.int .i64 0, .int .i64 0, .int .i64 0, .string (⟨#[]⟩:ByteArray)] 28 (0,0)) A6j hb);replace BK112:=z_ (zbb (g:=gb112) (o:=.cells #[.int .i64 t108, .int .i64 t109, .int .i64 t110, .string t111] 28 (0,0)) A6t hb);replace HB:=z_ (below_step A6l hb);(try clear hb);(try clear hb2);(try clear hk);(try clear hi);obtain ⟨_,_,_,_,_,_,_,_⟩:=Rr BK112.out;obtain ⟨_,_,_,_,_,_,_,_⟩:=Rr BK101.out))
             refine bodyPost_ret (results_ct rfl _ _ gb101 28 #[.int .i64 t108, .int .i64 t109, .int .i64 t110, .string t111] (0,0) _ rfl (by (with_reducible repeat first|apply Jx|apply A7|apply K0);refine Tt (cs:=#[.int .i64 t108, .int .i64 t109, .int .i64 t110, .string (⟨#[]⟩:ByteArray)]) ?_ 3 _ rfl;(with_reducible repeat first|apply Jx|apply A7|apply K0);refine Tt (cs:=#[.int .i64 t108, .int .i64 t109, .int .i64 0, .string (⟨#[]⟩:ByteArray)]) ?_ 2 _ rfl;(with_reducible repeat first|apply Jx|apply A7|apply K0);refine Tt (cs:=#[.int .i64 t108, .int .i64 0, .int .i64 0, .string (⟨#[]⟩:ByteArray)]) ?_ 1 _ rfl;(with_reducible repeat first|apply Jx|apply A7|apply K0);refine Tt (cs:=#[.int .i64 0, .int .i64 0, .int .i64 0, .string (⟨#[]⟩:ByteArray)]) ?_ 0 _ rfl;(with_reducible repeat first|apply Jx|apply A7|apply K0);exact BK101.out) Try.underlying28 rfl (by kernel_rfl)) rfl ?_
             exact ⟨by first|rfl|(simp [errW_none,errW_some] <;> rfl)|(simp [*,errW_none,errW_some] <;> rfl),by repeat first|(with_reducible first|exact HB.out|apply zA|apply zN|apply z1|refine zS ?_ GE101.out|refine zS ?_ GE112.out)|exact HB.out⟩
            ·replace c25:=Bool.eq_false_iff.mpr c25
             subst c25
             have H1:(some (0,0,0,(⟨#[]⟩:ByteArray),10)) = some (r1,r2,r3,r4,r5):=by rw [if_neg (show ¬ (false = true) by decide)] at H;exact H
             clear H
             have H:=H1
             clear H1
             simp only [Option.some.injEq,Prod.mk.injEq] at H
             obtain ⟨rfl,rfl,rfl,rfl,rfl⟩:=H
             go_wp2_with (first|((with_reducible refine gate_callee (f:=77) rfl ?_);refine goesL_ (some 59) rfl rfl Try.func77 (by kernel_rfl) rfl #[.int .i64 x6_8] rfl W4 ?_;(with_reducible refine (Ad7.calls kj11 x6_8 t107 _ A22.out).mono ?_);rintro e w' ⟨rfl,⟨nd,rfl⟩⟩;refine ⟨_,rfl,?_⟩;(try (rw [drewN_self wc];generalize hq_:World.drewN wc _ = wc;have n0_:Aside0 (wc.heap[gb101]? = some (.cells #[.int .i64 0, .int .i64 0, .int .i64 0, .string (⟨#[]⟩:ByteArray)] 28 (0,0))):=⟨by rw [← hq_];exact zp2⟩;have n1_:Aside0 (Below w.heap.size w wc):=⟨by rw [← hq_];exact zp1⟩;clear BK101 HB hq_;have BK101:=n0_;have HB:=n1_;clear n0_ n1_));(try have hcu34_0:wc.cell? ⟨gb101,0,none⟩ = some (.int .i64 0):=(Oi BK101.out 0).trans rfl);(try have hcu34_1:wc.cell? ⟨gb101,1,none⟩ = some (.int .i64 0):=(Oi BK101.out 1).trans rfl);(try have hcu34_2:wc.cell? ⟨gb101,2,none⟩ = some (.int .i64 0):=(Oi BK101.out 2).trans rfl);(try have hcu34_3:wc.cell? ⟨gb101,3,none⟩ = some (.string (⟨#[]⟩:ByteArray)):=(Oi BK101.out 3).trans rfl);(try have hfu34_0:=S3 BK101.out 0);(try have hfu34_1:=S3 BK101.out 1);(try have hfu34_2:=S3 BK101.out 2);(try have hfu34_3:=S3 BK101.out 3))|((with_reducible refine gate_callee (f:=59) rfl ?_);refine goesL_ (some 65) rfl rfl Try.func59 (by kernel_rfl) rfl #[.agg #[.int .i64 3, .int .i64 (wrap64 ((wrap64 (x0_2 * t107)) + x1_8)), .int .i64 x6_8, .string (⟨#[]⟩:ByteArray)]] rfl W4 ?_;(with_reducible refine (federationref1_Norm.calls kj11 3 (wrap64 ((wrap64 (x0_2 * t107)) + x1_8)) x6_8 (⟨#[]⟩:ByteArray) t108 t109 t110 t111 _ A23.out).mono ?_);rintro e w35 ⟨rfl,hb⟩;refine ⟨_,rfl,?_⟩;replace BK101:=z_ (zk BK101.out hb);replace HB:=z_ (below_step zp1 hb);(try clear hb);(try clear hb2);(try clear hk);(try clear hi))|((with_reducible refine gate_dst (N:=7) rfl ?_);refine box_event (by rfl) (N:=7) (by rfl) (cs:=#[.int .i64 0, .int .i64 0, .int .i64 0, .string (⟨#[]⟩:ByteArray)]) (t:=28) W3 ?_;intro gb112 hg w36 hbox hb;have BK112:=z_ (hbox);have GW112:=z_ ((W6:w.heap.size ≤ gb112));have GE112:=z_ ((W6:w.heap.size ≤ gb112));replace HB:=z_ (below_step zp1 hb);have NB101_112:=z_ ((A2h:gb101 ≠ gb112));have NB112_101:=z_ ((A2g:gb112 ≠ gb101));replace BK101:=z_ (zk BK101.out hb);clear hb hbox hg;have hnb37:=NB112_101.out;have hnc37:=NB101_112.out;obtain ⟨_,_,_,_,_,_,_,_⟩:=Rr BK112.out)|((with_reducible refine gate_callee (f:=21) rfl ?_);refine goesL_ (some 67) rfl rfl Try.func21 (by kernel_rfl) rfl #[.agg #[.int .i64 t108, .int .i64 t109, .int .i64 t110, .string t111]] rfl W4 ?_;(with_reducible refine (Amj.calls kj11 t108 t109 t110 t111 false _ A24.out).mono ?_);rintro e w39 ⟨rfl,hb⟩;refine ⟨_,rfl,?_⟩;replace BK101:=z_ (zbb (g:=gb101) (o:=.cells #[.int .i64 0, .int .i64 0, .int .i64 0, .string (⟨#[]⟩:ByteArray)] 28 (0,0)) A6j hb);replace BK112:=z_ (zbb (g:=gb112) (o:=.cells #[.int .i64 t108, .int .i64 t109, .int .i64 t110, .string t111] 28 (0,0)) A6t hb);replace HB:=z_ (below_step A6l hb);(try clear hb);(try clear hb2);(try clear hk);(try clear hi);obtain ⟨_,_,_,_,_,_,_,_⟩:=Rr BK101.out))
             refine bodyPost_ret (results_ct rfl _ _ gb101 28 #[.int .i64 0, .int .i64 0, .int .i64 0, .string (⟨#[]⟩:ByteArray)] (0,0) _ rfl A21 Try.underlying28 rfl (by kernel_rfl)) rfl ?_
             exact ⟨by first|rfl|(simp [errW_none,errW_some] <;> rfl)|(simp [*,errW_none,errW_some] <;> rfl),by repeat first|(with_reducible first|exact HB.out|apply zA|apply zN|apply z1|refine zS ?_ GE101.out|refine zS ?_ GE112.out)|exact HB.out⟩
end Go.Proofs.Ytglffgneikoeaaa.M
namespace Go.Proofs.Ytglffgneikoeaaa.M
open Go.RowKit Go.Proofs.YtglffgneikoeaaaW.PrintWords Go.Proofs.YtglffgneikoeaaaW.PrintLast Go.Proofs.YtglffgneikoeaaaW.PrintMore
attribute [local go_sem] max2_int min2_int max_two min_two max_three min_three max_four min_four
attribute [local go_sem high] own_gtr own_leq own_geq own_cell_set Option.map_some
set_option linter.unusedVariables false
set_option linter.unusedSimpArgs false
def Am1.f (a0:Int) (a1:Int):Option (Int × Bool):=if ((decide (a0 < 0)) == (decide (a1 < 0))) = true then (some (wrap64 (a0 - a1),true)) else (some (wrap64 (a0 - a1),((decide ((wrap64 (a0 - a1)) < 0)) == (decide (a0 < 0)))))
set_option maxHeartbeats 8000000 in
set_option maxRecDepth 100000 in
theorem Am1.calls (a0:Int) (a1:Int) (r1:Int) (r2:Bool) (w:World) (h:Am1.f a0 a1 = some (r1,r2)) :
  Calls Try.prog 99 #[.int .i64 a0, .int .i64 a1] w fun e w'=>e = .returned (.tuple #[.int .i64 r1, .bool r2]) ∧ Drawn0 w w':=by
 have H:(if ((decide (a0 < 0)) == (decide (a1 < 0))) = true then (some (wrap64 (a0 - a1),true)) else (some (wrap64 (a0 - a1),((decide ((wrap64 (a0 - a1)) < 0)) == (decide (a0 < 0)))))) = some (r1,r2):=h
 clear h
 by_cases c3:((decide (a0 < 0)) == (decide (a1 < 0))) = true
 ·rw [if_pos c3] at H
  have c3b0:((decide (a0 < 0)) == (decide (a1 < 0))) = true:=c3
  (try (have c3b1:decide ((decide (a0 < 0)) = (decide (a1 < 0))) = true:=by simpa using c3))
  (try (have c3b2:((decide (a0 < 0)) == (decide (a1 < 0))) = true:=by simpa using c3))
  clear c3
  simp only [Option.some.injEq,Prod.mk.injEq] at H
  obtain ⟨rfl,rfl⟩:=H
  go_enter Try.func99,Try.ntmps99
  go_wp2
  go_ret2
  exact ⟨by first|rfl|(simp;done)|(simp [*];done),by repeat (first|exact Drawn0.refl _|apply Drawn0.step)⟩
 ·rw [if_neg c3] at H
  have c3b0:((decide (a0 < 0)) == (decide (a1 < 0))) = false:=by simpa using c3
  (try (have c3b1:decide ((decide (a0 < 0)) = (decide (a1 < 0))) = false:=by simpa using c3))
  (try (have c3b2:((decide (a0 < 0)) == (decide (a1 < 0))) = false:=by simpa using c3))
  (try (have c3b3:¬ ((decide (a0 < 0)) = (decide (a1 < 0))):=by simpa using c3))
  clear c3
  simp only [Option.some.injEq,Prod.mk.injEq] at H
  obtain ⟨rfl,rfl⟩:=H
  go_enter Try.func99,Try.ntmps99
  go_wp2
  go_ret2
  exact ⟨by first|rfl|(simp;done)|(simp [*];done),by repeat (first|exact Drawn0.refl _|apply Drawn0.step)⟩
end Go.Proofs.Ytglffgneikoeaaa.M
namespace Go.Proofs.Ytglffgneikoeaaa.M
open Go.RowKit Go.Proofs.YtglffgneikoeaaaW.PrintWords Go.Proofs.YtglffgneikoeaaaW.PrintLast Go.Proofs.YtglffgneikoeaaaW.PrintMore
attribute [local go_sem] max2_int min2_int max_two min_two max_three min_three max_four min_four
attribute [local go_sem high] own_gtr own_leq own_geq own_cell_set Option.map_some
set_option linter.unusedVariables false
set_option linter.unusedSimpArgs false
def Amp.f (a0:Int) (a1:Int) (a2:Int):Option (Int × Bool):=if a0 = 6 then (if a1 = (-1) then ((Am1.f 0 a2).bind fun bt101=>(some (bt101.1,bt101.2))) else (if a2 = (-1) then ((Am1.f 0 a1).bind fun bt103=>(some (bt103.1,bt103.2))) else ((A2c.f a1 a2).bind fun bt105=>(some (bt105.1,bt105.2))))) else (if a0 = 7 then ((A2d.f a1 a2).bind fun bt107=>(some (bt107.1,bt107.2))) else ((Am1.f a1 a2).bind fun bt109=>(some (bt109.1,bt109.2))))
set_option maxHeartbeats 8000000 in
set_option maxRecDepth 100000 in
theorem Amp.calls (a0:Int) (a1:Int) (a2:Int) (r1:Int) (r2:Bool) (w:World) (h:Amp.f a0 a1 a2 = some (r1,r2)) :
  Calls Try.prog 92 #[.int .i64 a0, .int .i64 a1, .int .i64 a2] w fun e w'=>e = .returned (.tuple #[.int .i64 r1, .bool r2]) ∧ Drawn0 w w':=by
 have H:(if a0 = 6 then (if a1 = (-1) then ((Am1.f 0 a2).bind fun bt101=>(some (bt101.1,bt101.2))) else (if a2 = (-1) then ((Am1.f 0 a1).bind fun bt103=>(some (bt103.1,bt103.2))) else ((A2c.f a1 a2).bind fun bt105=>(some (bt105.1,bt105.2))))) else (if a0 = 7 then ((A2d.f a1 a2).bind fun bt107=>(some (bt107.1,bt107.2))) else ((Am1.f a1 a2).bind fun bt109=>(some (bt109.1,bt109.2))))) = some (r1,r2):=h
 clear h
 by_cases c4:a0 = 6
 ·rw [if_pos c4] at H
  have c4b0:(a0 == 6) = true:=beq_iff_eq.mpr c4
  have c4b1:(a0 != 6) = false:=bne_eq_false_iff_eq.mpr c4
  clear c4
  by_cases c5:a1 = (-1)
  ·rw [if_pos c5] at H
   have c5b0:(a1 == (-1)) = true:=beq_iff_eq.mpr c5
   have c5b1:(a1 != (-1)) = false:=bne_eq_false_iff_eq.mpr c5
   clear c5
   replace H:=Option.bind_eq_some_iff.mp H
   obtain ⟨⟨t101,t102⟩,A60,H⟩:=H
   replace H:(some (t101,t102)) = some (r1,r2):=H
   have A6:=z_ A60
   clear A60
   simp only [Option.some.injEq,Prod.mk.injEq] at H
   obtain ⟨rfl,rfl⟩:=H
   go_enter Try.func92,Try.ntmps92
   go_wp2_with (first|((with_reducible refine gate_callee (f:=99) rfl ?_);refine goesL_ (some 14) rfl rfl Try.func99 (by kernel_rfl) rfl #[.int .i64 0, .int .i64 a2] rfl W4 ?_;(with_reducible refine (Am1.calls 0 a2 t101 t102 _ A6.out).mono ?_);rintro e w' ⟨rfl,⟨nd,rfl⟩⟩;refine ⟨_,rfl,?_⟩))
   go_ret2
   exact ⟨by first|rfl|(simp;done)|(simp [*];done),by repeat (first|exact Drawn0.refl _|apply Drawn0.step)⟩
  ·rw [if_neg c5] at H
   have c5b0:(a1 == (-1)) = false:=beq_eq_false_iff_ne.mpr c5
   have c5b1:(a1 != (-1)) = true:=bne_iff_ne.mpr c5
   by_cases c7:a2 = (-1)
   ·rw [if_pos c7] at H
    have c7b0:(a2 == (-1)) = true:=beq_iff_eq.mpr c7
    have c7b1:(a2 != (-1)) = false:=bne_eq_false_iff_eq.mpr c7
    clear c7
    replace H:=Option.bind_eq_some_iff.mp H
    obtain ⟨⟨t103,t104⟩,A80,H⟩:=H
    replace H:(some (t103,t104)) = some (r1,r2):=H
    have A8:=z_ A80
    clear A80
    simp only [Option.some.injEq,Prod.mk.injEq] at H
    obtain ⟨rfl,rfl⟩:=H
    go_enter Try.func92,Try.ntmps92
    go_wp2_with (first|((with_reducible refine gate_callee (f:=99) rfl ?_);refine goesL_ (some 20) rfl rfl Try.func99 (by kernel_rfl) rfl #[.int .i64 0, .int .i64 a1] rfl W4 ?_;(with_reducible refine (Am1.calls 0 a1 t103 t104 _ A8.out).mono ?_);rintro e w' ⟨rfl,⟨nd,rfl⟩⟩;refine ⟨_,rfl,?_⟩))
    go_ret2
    exact ⟨by first|rfl|(simp;done)|(simp [*];done),by repeat (first|exact Drawn0.refl _|apply Drawn0.step)⟩
   ·rw [if_neg c7] at H
    have c7b0:(a2 == (-1)) = false:=beq_eq_false_iff_ne.mpr c7
    have c7b1:(a2 != (-1)) = true:=bne_iff_ne.mpr c7
    replace H:=Option.bind_eq_some_iff.mp H
    obtain ⟨⟨t105,t106⟩,A90,H⟩:=H
    replace H:(some (t105,t106)) = some (r1,r2):=H
    have A9:=z_ A90
    clear A90
    simp only [Option.some.injEq,Prod.mk.injEq] at H
    obtain ⟨rfl,rfl⟩:=H
    go_enter Try.func92,Try.ntmps92
    go_wp2_with (first|((with_reducible refine gate_callee (f:=100) rfl ?_);refine goesL_ (some 25) rfl rfl Try.func100 (by kernel_rfl) rfl #[.int .i64 a1, .int .i64 a2] rfl W4 ?_;(with_reducible refine (A2c.calls a1 a2 t105 t106 _ A9.out).mono ?_);rintro e w' ⟨rfl,⟨nd,rfl⟩⟩;refine ⟨_,rfl,?_⟩))
    go_ret2
    exact ⟨by first|rfl|(simp;done)|(simp [*];done),by repeat (first|exact Drawn0.refl _|apply Drawn0.step)⟩
 ·rw [if_neg c4] at H
  have c4b0:(a0 == 6) = false:=beq_eq_false_iff_ne.mpr c4
  have c4b1:(a0 != 6) = true:=bne_iff_ne.mpr c4
  by_cases c10:a0 = 7
  ·rw [if_pos c10] at H
   have c10b0:(a0 == 7) = true:=beq_iff_eq.mpr c10
   have c10b1:(a0 != 7) = false:=bne_eq_false_iff_eq.mpr c10
   clear c10
   replace H:=Option.bind_eq_some_iff.mp H
   obtain ⟨⟨t107,t108⟩,A110,H⟩:=H
   replace H:(some (t107,t108)) = some (r1,r2):=H
   have A11:=z_ A110
   clear A110
   simp only [Option.some.injEq,Prod.mk.injEq] at H
   obtain ⟨rfl,rfl⟩:=H
   go_enter Try.func92,Try.ntmps92
   go_wp2_with (first|((with_reducible refine gate_callee (f:=101) rfl ?_);refine goesL_ (some 32) rfl rfl Try.func101 (by kernel_rfl) rfl #[.int .i64 a1, .int .i64 a2] rfl W4 ?_;(with_reducible refine (A2d.calls a1 a2 t107 t108 _ A11.out).mono ?_);rintro e w' ⟨rfl,⟨nd,rfl⟩⟩;refine ⟨_,rfl,?_⟩))
   go_ret2
   exact ⟨by first|rfl|(simp;done)|(simp [*];done),by repeat (first|exact Drawn0.refl _|apply Drawn0.step)⟩
  ·rw [if_neg c10] at H
   have c10b0:(a0 == 7) = false:=beq_eq_false_iff_ne.mpr c10
   have c10b1:(a0 != 7) = true:=bne_iff_ne.mpr c10
   replace H:=Option.bind_eq_some_iff.mp H
   obtain ⟨⟨t109,t110⟩,A120,H⟩:=H
   replace H:(some (t109,t110)) = some (r1,r2):=H
   have A12:=z_ A120
   clear A120
   simp only [Option.some.injEq,Prod.mk.injEq] at H
   obtain ⟨rfl,rfl⟩:=H
   go_enter Try.func92,Try.ntmps92
   go_wp2_with (first|((with_reducible refine gate_callee (f:=99) rfl ?_);refine goesL_ (some 37) rfl rfl Try.func99 (by kernel_rfl) rfl #[.int .i64 a1, .int .i64 a2] rfl W4 ?_;(with_reducible refine (Am1.calls a1 a2 t109 t110 _ A12.out).mono ?_);rintro e w' ⟨rfl,⟨nd,rfl⟩⟩;refine ⟨_,rfl,?_⟩))
   go_ret2
   exact ⟨by first|rfl|(simp;done)|(simp [*];done),by repeat (first|exact Drawn0.refl _|apply Drawn0.step)⟩
end Go.Proofs.Ytglffgneikoeaaa.M
namespace Go.Proofs.Ytglffgneikoeaaa.M
open Go.RowKit Go.Proofs.YtglffgneikoeaaaW.PrintWords Go.Proofs.YtglffgneikoeaaaW.PrintLast Go.Proofs.YtglffgneikoeaaaW.PrintMore
attribute [local go_sem] max2_int min2_int max_two min_two max_three min_three max_four min_four
attribute [local go_sem high] own_gtr own_leq own_geq own_cell_set Option.map_some
set_option linter.unusedVariables false
set_option linter.unusedSimpArgs false
def Aer.f (k:Nat) (a0_0:Int) (a0_1:Int) (a0_2:Int) (a0_3:ByteArray):Option (Int × Int):=(Ad7.f k a0_2).bind fun t102=>(if t102 = 0 then (none) else (if (Int.tmod a0_1 t102) < 0 then ((Ad7.f k (wrap64 (6 - a0_2))).bind fun t103=>(some (wrap64 ((wrap64 (Int.tdiv a0_1 t102)) - 1),wrap64 ((wrap64 (a0_1 - (wrap64 ((wrap64 ((wrap64 (Int.tdiv a0_1 t102)) - 1)) * t102)))) * t103)))) else ((Ad7.f k (wrap64 (6 - a0_2))).bind fun t104=>(some (wrap64 (Int.tdiv a0_1 t102),wrap64 ((wrap64 (a0_1 - (wrap64 ((wrap64 (Int.tdiv a0_1 t102)) * t102)))) * t104))))))
set_option maxHeartbeats 8000000 in
set_option maxRecDepth 100000 in
theorem Aer.calls (k:Nat) (a0_0:Int) (a0_1:Int) (a0_2:Int) (a0_3:ByteArray) (r1:Int) (r2:Int) (w:World) (h:Aer.f k a0_0 a0_1 a0_2 a0_3 = some (r1,r2)) :
  Calls Try.prog 69 #[.agg #[.int .i64 a0_0, .int .i64 a0_1, .int .i64 a0_2, .string a0_3]] w fun e w'=>e = .returned (.tuple #[.int .i64 r1, .int .i64 r2]) ∧ Below w.heap.size w w':=by
 have hu28:=Try.underlying28
 have HB:=z_ (Below.refl w.heap.size w)
 have H:((Ad7.f k a0_2).bind fun t102=>(if t102 = 0 then (none) else (if (Int.tmod a0_1 t102) < 0 then ((Ad7.f k (wrap64 (6 - a0_2))).bind fun t103=>(some (wrap64 ((wrap64 (Int.tdiv a0_1 t102)) - 1),wrap64 ((wrap64 (a0_1 - (wrap64 ((wrap64 ((wrap64 (Int.tdiv a0_1 t102)) - 1)) * t102)))) * t103)))) else ((Ad7.f k (wrap64 (6 - a0_2))).bind fun t104=>(some (wrap64 (Int.tdiv a0_1 t102),wrap64 ((wrap64 (a0_1 - (wrap64 ((wrap64 (Int.tdiv a0_1 t102)) * t102)))) * t104))))))) = some (r1,r2):=h
 clear h
 replace H:=Option.bind_eq_some_iff.mp H
 obtain ⟨t102,A20,H⟩:=H
 replace H:(if t102 = 0 then (none) else (if (Int.tmod a0_1 t102) < 0 then ((Ad7.f k (wrap64 (6 - a0_2))).bind fun t103=>(some (wrap64 ((wrap64 (Int.tdiv a0_1 t102)) - 1),wrap64 ((wrap64 (a0_1 - (wrap64 ((wrap64 ((wrap64 (Int.tdiv a0_1 t102)) - 1)) * t102)))) * t103)))) else ((Ad7.f k (wrap64 (6 - a0_2))).bind fun t104=>(some (wrap64 (Int.tdiv a0_1 t102),wrap64 ((wrap64 (a0_1 - (wrap64 ((wrap64 (Int.tdiv a0_1 t102)) * t102)))) * t104)))))) = some (r1,r2):=H
 have A2:=z_ A20
 clear A20
 by_cases c3:t102 = 0
 ·rw [if_pos c3] at H
  exact absurd H (by simp)
 ·rw [if_neg c3] at H
  have c3b0:(t102 == 0) = false:=beq_eq_false_iff_ne.mpr c3
  have c3b1:(t102 != 0) = true:=bne_iff_ne.mpr c3
  by_cases c4:(Int.tmod a0_1 t102) < 0
  ·rw [if_pos c4] at H
   have c4b0:decide ((Int.tmod a0_1 t102) < 0) = true:=decide_eq_true c4
   clear c4
   replace H:=Option.bind_eq_some_iff.mp H
   obtain ⟨t103,A50,H⟩:=H
   replace H:(some (wrap64 ((wrap64 (Int.tdiv a0_1 t102)) - 1),wrap64 ((wrap64 (a0_1 - (wrap64 ((wrap64 ((wrap64 (Int.tdiv a0_1 t102)) - 1)) * t102)))) * t103))) = some (r1,r2):=H
   have A5:=z_ A50
   clear A50
   simp only [Option.some.injEq,Prod.mk.injEq] at H
   obtain ⟨rfl,rfl⟩:=H
   go_enter Try.func69,Try.ntmps69
   go_wp2_with (first|((with_reducible refine gate_dst (N:=1) rfl ?_);refine box_event (by rfl) (N:=1) (by rfl) (cs:=#[.int .i64 a0_0, .int .i64 a0_1, .int .i64 a0_2, .string a0_3]) (t:=28) W3 ?_;intro gb101 hg w6 hbox hb;have BK101:=z_ (hbox);have GW101:=z_ ((W0:w.heap.size ≤ gb101));have GE101:=z_ ((W0:w.heap.size ≤ gb101));replace HB:=z_ (below_step W5 hb);clear hb hbox hg;obtain ⟨_,_,_,_,_,_,_,_⟩:=Rr BK101.out)|(go_at_call 77;(with_reducible refine (Ad7.calls k a0_2 t102 _ A2.out).mono ?_);rintro e w' ⟨rfl,⟨nd,rfl⟩⟩;(try first|exact ⟨rfl,_,World.drewN_drewN _ _ _⟩|exact ⟨rfl,_,Eq.trans (World.drewN_drewN _ _ _) (congrArg (World.drewN _) (Nat.add_assoc _ _ _))⟩))|(go_at_call 77;(with_reducible refine (Ad7.calls k (wrap64 (6 - a0_2)) t103 _ A5.out).mono ?_);rintro e w' ⟨rfl,⟨nd,rfl⟩⟩;(try first|exact ⟨rfl,_,World.drewN_drewN _ _ _⟩|exact ⟨rfl,_,Eq.trans (World.drewN_drewN _ _ _) (congrArg (World.drewN _) (Nat.add_assoc _ _ _))⟩)))
   repeat (go_quiet (first|((with_reducible refine gate_dst (N:=1) rfl ?_);refine box_event (by rfl) (N:=1) (by rfl) (cs:=#[.int .i64 a0_0, .int .i64 a0_1, .int .i64 a0_2, .string a0_3]) (t:=28) W3 ?_;intro gb101 hg w6 hbox hb;have BK101:=z_ (hbox);have GW101:=z_ ((W0:w.heap.size ≤ gb101));have GE101:=z_ ((W0:w.heap.size ≤ gb101));replace HB:=z_ (below_step W5 hb);clear hb hbox hg;obtain ⟨_,_,_,_,_,_,_,_⟩:=Rr BK101.out)|(go_at_call 77;(with_reducible refine (Ad7.calls k a0_2 t102 _ A2.out).mono ?_);rintro e w' ⟨rfl,⟨nd,rfl⟩⟩;(try first|exact ⟨rfl,_,World.drewN_drewN _ _ _⟩|exact ⟨rfl,_,Eq.trans (World.drewN_drewN _ _ _) (congrArg (World.drewN _) (Nat.add_assoc _ _ _))⟩))|(go_at_call 77;(with_reducible refine (Ad7.calls k (wrap64 (6 - a0_2)) t103 _ A5.out).mono ?_);rintro e w' ⟨rfl,⟨nd,rfl⟩⟩;(try first|exact ⟨rfl,_,World.drewN_drewN _ _ _⟩|exact ⟨rfl,_,Eq.trans (World.drewN_drewN _ _ _) (congrArg (World.drewN _) (Nat.add_assoc _ _ _))⟩)));try go_wp2_with (first|((with_reducible refine gate_dst (N:=1) rfl ?_);refine box_event (by rfl) (N:=1) (by rfl) (cs:=#[.int .i64 a0_0, .int .i64 a0_1, .int .i64 a0_2, .string a0_3]) (t:=28) W3 ?_;intro gb101 hg w6 hbox hb;have BK101:=z_ (hbox);have GW101:=z_ ((W0:w.heap.size ≤ gb101));have GE101:=z_ ((W0:w.heap.size ≤ gb101));replace HB:=z_ (below_step W5 hb);clear hb hbox hg;obtain ⟨_,_,_,_,_,_,_,_⟩:=Rr BK101.out)|(go_at_call 77;(with_reducible refine (Ad7.calls k a0_2 t102 _ A2.out).mono ?_);rintro e w' ⟨rfl,⟨nd,rfl⟩⟩;(try first|exact ⟨rfl,_,World.drewN_drewN _ _ _⟩|exact ⟨rfl,_,Eq.trans (World.drewN_drewN _ _ _) (congrArg (World.drewN _) (Nat.add_assoc _ _ _))⟩))|(go_at_call 77;(with_reducible refine (Ad7.calls k (wrap64 (6 - a0_2)) t103 _ A5.out).mono ?_);rintro e w' ⟨rfl,⟨nd,rfl⟩⟩;(try first|exact ⟨rfl,_,World.drewN_drewN _ _ _⟩|exact ⟨rfl,_,Eq.trans (World.drewN_drewN _ _ _) (congrArg (World.drewN _) (Nat.add_assoc _ _ _))⟩))))
   go_ret2
   exact ⟨by first|rfl|(simp [errW_none,errW_some] <;> rfl)|(simp [*,errW_none,errW_some] <;> rfl),by repeat first|(with_reducible first|exact HB.out|apply zA|apply zN|apply z1|refine zS ?_ GE101.out)|exact HB.out⟩
  ·rw [if_neg c4] at H
   have c4b0:decide ((Int.tmod a0_1 t102) < 0) = false:=decide_eq_false c4
   clear c4
   replace H:=Option.bind_eq_some_iff.mp H
   obtain ⟨t104,A80,H⟩:=H
   replace H:(some (wrap64 (Int.tdiv a0_1 t102),wrap64 ((wrap64 (a0_1 - (wrap64 ((wrap64 (Int.tdiv a0_1 t102)) * t102)))) * t104))) = some (r1,r2):=H
   have A8:=z_ A80
   clear A80
   simp only [Option.some.injEq,Prod.mk.injEq] at H
   obtain ⟨rfl,rfl⟩:=H
   go_enter Try.func69,Try.ntmps69
   go_wp2_with (first|((with_reducible refine gate_dst (N:=1) rfl ?_);refine box_event (by rfl) (N:=1) (by rfl) (cs:=#[.int .i64 a0_0, .int .i64 a0_1, .int .i64 a0_2, .string a0_3]) (t:=28) W3 ?_;intro gb101 hg w9 hbox hb;have BK101:=z_ (hbox);have GW101:=z_ ((W0:w.heap.size ≤ gb101));have GE101:=z_ ((W0:w.heap.size ≤ gb101));replace HB:=z_ (below_step W5 hb);clear hb hbox hg;obtain ⟨_,_,_,_,_,_,_,_⟩:=Rr BK101.out)|(go_at_call 77;(with_reducible refine (Ad7.calls k a0_2 t102 _ A2.out).mono ?_);rintro e w' ⟨rfl,⟨nd,rfl⟩⟩;(try first|exact ⟨rfl,_,World.drewN_drewN _ _ _⟩|exact ⟨rfl,_,Eq.trans (World.drewN_drewN _ _ _) (congrArg (World.drewN _) (Nat.add_assoc _ _ _))⟩))|(go_at_call 77;(with_reducible refine (Ad7.calls k (wrap64 (6 - a0_2)) t104 _ A8.out).mono ?_);rintro e w' ⟨rfl,⟨nd,rfl⟩⟩;(try first|exact ⟨rfl,_,World.drewN_drewN _ _ _⟩|exact ⟨rfl,_,Eq.trans (World.drewN_drewN _ _ _) (congrArg (World.drewN _) (Nat.add_assoc _ _ _))⟩)))
   repeat (go_quiet (first|((with_reducible refine gate_dst (N:=1) rfl ?_);refine box_event (by rfl) (N:=1) (by rfl) (cs:=#[.int .i64 a0_0, .int .i64 a0_1, .int .i64 a0_2, .string a0_3]) (t:=28) W3 ?_;intro gb101 hg w9 hbox hb;have BK101:=z_ (hbox);have GW101:=z_ ((W0:w.heap.size ≤ gb101));have GE101:=z_ ((W0:w.heap.size ≤ gb101));replace HB:=z_ (below_step W5 hb);clear hb hbox hg;obtain ⟨_,_,_,_,_,_,_,_⟩:=Rr BK101.out)|(go_at_call 77;(with_reducible refine (Ad7.calls k a0_2 t102 _ A2.out).mono ?_);rintro e w' ⟨rfl,⟨nd,rfl⟩⟩;(try first|exact ⟨rfl,_,World.drewN_drewN _ _ _⟩|exact ⟨rfl,_,Eq.trans (World.drewN_drewN _ _ _) (congrArg (World.drewN _) (Nat.add_assoc _ _ _))⟩))|(go_at_call 77;(with_reducible refine (Ad7.calls k (wrap64 (6 - a0_2)) t104 _ A8.out).mono ?_);rintro e w' ⟨rfl,⟨nd,rfl⟩⟩;(try first|exact ⟨rfl,_,World.drewN_drewN _ _ _⟩|exact ⟨rfl,_,Eq.trans (World.drewN_drewN _ _ _) (congrArg (World.drewN _) (Nat.add_assoc _ _ _))⟩)));try go_wp2_with (first|((with_reducible refine gate_dst (N:=1) rfl ?_);refine box_event (by rfl) (N:=1) (by rfl) (cs:=#[.int .i64 a0_0, .int .i64 a0_1, .int .i64 a0_2, .string a0_3]) (t:=28) W3 ?_;intro gb101 hg w9 hbox hb;have BK101:=z_ (hbox);have GW101:=z_ ((W0:w.heap.size ≤ gb101));have GE101:=z_ ((W0:w.heap.size ≤ gb101));replace HB:=z_ (below_step W5 hb);clear hb hbox hg;obtain ⟨_,_,_,_,_,_,_,_⟩:=Rr BK101.out)|(go_at_call 77;(with_reducible refine (Ad7.calls k a0_2 t102 _ A2.out).mono ?_);rintro e w' ⟨rfl,⟨nd,rfl⟩⟩;(try first|exact ⟨rfl,_,World.drewN_drewN _ _ _⟩|exact ⟨rfl,_,Eq.trans (World.drewN_drewN _ _ _) (congrArg (World.drewN _) (Nat.add_assoc _ _ _))⟩))|(go_at_call 77;(with_reducible refine (Ad7.calls k (wrap64 (6 - a0_2)) t104 _ A8.out).mono ?_);rintro e w' ⟨rfl,⟨nd,rfl⟩⟩;(try first|exact ⟨rfl,_,World.drewN_drewN _ _ _⟩|exact ⟨rfl,_,Eq.trans (World.drewN_drewN _ _ _) (congrArg (World.drewN _) (Nat.add_assoc _ _ _))⟩))))
   go_ret2
   exact ⟨by first|rfl|(simp [errW_none,errW_some] <;> rfl)|(simp [*,errW_none,errW_some] <;> rfl),by repeat first|(with_reducible first|exact HB.out|apply zA|apply zN|apply z1|refine zS ?_ GE101.out)|exact HB.out⟩
end Go.Proofs.Ytglffgneikoeaaa.M
namespace Go.Proofs.Ytglffgneikoeaaa.M
open Go.RowKit Go.Proofs.YtglffgneikoeaaaW.PrintWords Go.Proofs.YtglffgneikoeaaaW.PrintLast Go.Proofs.YtglffgneikoeaaaW.PrintMore
attribute [local go_sem] max2_int min2_int max_two min_two max_three min_three max_four min_four
attribute [local go_sem high] own_gtr own_leq own_geq own_cell_set Option.map_some
set_option linter.unusedVariables false
set_option linter.unusedSimpArgs false
def Aeo.f (a0:Int) (a1:Int):Option (Int):=if a0 < a1 then (some (-1)) else (if a0 > a1 then (some 1) else (some 0))
set_option maxHeartbeats 8000000 in
set_option maxRecDepth 100000 in
theorem Aeo.calls (a0:Int) (a1:Int) (r:Int) (w:World) (h:Aeo.f a0 a1 = some r) :
  Calls Try.prog 82 #[.int .i64 a0, .int .i64 a1] w fun e w'=>e = .returned (.int .i64 r) ∧ Drawn0 w w':=by
 have H:(if a0 < a1 then (some (-1)) else (if a0 > a1 then (some 1) else (some 0))) = some r:=h
 clear h
 by_cases c3:a0 < a1
 ·rw [if_pos c3] at H
  have c3b0:decide (a0 < a1) = true:=decide_eq_true c3
  clear c3
  obtain rfl:=Option.some.inj H
  go_enter Try.func82,Try.ntmps82
  go_wp2
  go_ret
  exact ⟨by first|rfl|(simp;done)|(simp [*];done),by repeat (first|exact Drawn0.refl _|apply Drawn0.step)⟩
 ·rw [if_neg c3] at H
  have c3b0:decide (a0 < a1) = false:=decide_eq_false c3
  clear c3
  by_cases c4:a0 > a1
  ·rw [if_pos c4] at H
   have c4b0:decide (a1 < a0) = true:=decide_eq_true c4
   clear c4
   obtain rfl:=Option.some.inj H
   go_enter Try.func82,Try.ntmps82
   go_wp2
   go_ret
   exact ⟨by first|rfl|(simp;done)|(simp [*];done),by repeat (first|exact Drawn0.refl _|apply Drawn0.step)⟩
  ·rw [if_neg c4] at H
   have c4b0:decide (a1 < a0) = false:=decide_eq_false c4
   clear c4
   obtain rfl:=Option.some.inj H
   go_enter Try.func82,Try.ntmps82
   go_wp2
   go_ret
   exact ⟨by first|rfl|(simp;done)|(simp [*];done),by repeat (first|exact Drawn0.refl _|apply Drawn0.step)⟩
end Go.Proofs.Ytglffgneikoeaaa.M
namespace Go.Proofs.Ytglffgneikoeaaa.M
open Go.RowKit Go.Proofs.YtglffgneikoeaaaW.PrintWords Go.Proofs.YtglffgneikoeaaaW.PrintLast Go.Proofs.YtglffgneikoeaaaW.PrintMore
attribute [local go_sem] max2_int min2_int max_two min_two max_three min_three max_four min_four
attribute [local go_sem high] own_gtr own_leq own_geq own_cell_set Option.map_some
set_option linter.unusedVariables false
set_option linter.unusedSimpArgs false
def A17.f (a0:ByteArray) (a1:ByteArray):Option (Int):=if (Op.bytesLess a0.toList a1.toList) = true then (some (-1)) else (if (Op.bytesLess a1.toList a0.toList) = true then (some 1) else (some 0))
set_option maxHeartbeats 8000000 in
set_option maxRecDepth 100000 in
theorem A17.calls (a0:ByteArray) (a1:ByteArray) (r:Int) (w:World) (h:A17.f a0 a1 = some r) :
  Calls Try.prog 83 #[.string a0, .string a1] w fun e w'=>e = .returned (.int .i64 r) ∧ Drawn0 w w':=by
 have H:(if (Op.bytesLess a0.toList a1.toList) = true then (some (-1)) else (if (Op.bytesLess a1.toList a0.toList) = true then (some 1) else (some 0))) = some r:=h
 clear h
 by_cases c3:(Op.bytesLess a0.toList a1.toList) = true
 ·rw [if_pos c3] at H
  have c3b0:(Op.bytesLess a0.toList a1.toList) = true:=c3
  clear c3
  obtain rfl:=Option.some.inj H
  go_enter Try.func83,Try.ntmps83
  go_wp2
  go_ret
  exact ⟨by first|rfl|(simp;done)|(simp [*];done),by repeat (first|exact Drawn0.refl _|apply Drawn0.step)⟩
 ·rw [if_neg c3] at H
  have c3b0:(Op.bytesLess a0.toList a1.toList) = false:=by simpa using c3
  clear c3
  by_cases c4:(Op.bytesLess a1.toList a0.toList) = true
  ·rw [if_pos c4] at H
   have c4b0:(Op.bytesLess a1.toList a0.toList) = true:=c4
   clear c4
   obtain rfl:=Option.some.inj H
   go_enter Try.func83,Try.ntmps83
   go_wp2
   go_ret
   exact ⟨by first|rfl|(simp;done)|(simp [*];done),by repeat (first|exact Drawn0.refl _|apply Drawn0.step)⟩
  ·rw [if_neg c4] at H
   have c4b0:(Op.bytesLess a1.toList a0.toList) = false:=by simpa using c4
   clear c4
   obtain rfl:=Option.some.inj H
   go_enter Try.func83,Try.ntmps83
   go_wp2
   go_ret
   exact ⟨by first|rfl|(simp;done)|(simp [*];done),by repeat (first|exact Drawn0.refl _|apply Drawn0.step)⟩
end Go.Proofs.Ytglffgneikoeaaa.M
namespace Go.Proofs.Ytglffgneikoeaaa.M
open Go.RowKit Go.Proofs.YtglffgneikoeaaaW.PrintWords Go.Proofs.YtglffgneikoeaaaW.PrintLast Go.Proofs.YtglffgneikoeaaaW.PrintMore
attribute [local go_sem] max2_int min2_int max_two min_two max_three min_three max_four min_four
attribute [local go_sem high] own_gtr own_leq own_geq own_cell_set Option.map_some
set_option linter.unusedVariables false
set_option linter.unusedSimpArgs false
def Amo.j0:Nat → Int → Bool → Int → Int → Int → ByteArray → Int → Int → Int → ByteArray → Option (Int)
 | 0,_,_,_,_,_,_,_,_,_,_=>none
 | k + 1,x20,x21,x102000,x102001,x102002,x102003,x103000,x103001,x103002,x103003=>if x21 = true then ((Aeo.f x102001 x103001).bind fun t104=>(some t104)) else (if x20 = 3 then ((Aer.f k x102000 x102001 x102002 x102003).bind fun bt105=>((Aer.f k x103000 x103001 x103002 x103003).bind fun bt107=>((Aeo.f bt105.1 bt107.1).bind fun t109=>(if t109 = 0 then ((Aeo.f bt105.2 bt107.2).bind fun t110=>(some t110)) else (some t109))))) else ((A17.f x102003 x103003).bind fun t111=>(some t111)))
def Amo.f (k:Nat) (a0_0:Int) (a0_1:Int) (a0_2:Int) (a0_3:ByteArray) (a1_0:Int) (a1_1:Int) (a1_2:Int) (a1_3:ByteArray):Option (Int):=(Aeo.f a0_0 a1_0).bind fun t103=>(if t103 = 0 then (if a0_0 = 1 then (Amo.j0 k a0_0 (a0_0 == 1) a0_0 a0_1 a0_2 a0_3 a1_0 a1_1 a1_2 a1_3) else (Amo.j0 k a0_0 (a0_0 == 2) a0_0 a0_1 a0_2 a0_3 a1_0 a1_1 a1_2 a1_3)) else (some t103))
set_option maxHeartbeats 8000000 in
set_option maxRecDepth 100000 in
theorem Amo.calls (k:Nat) (a0_0:Int) (a0_1:Int) (a0_2:Int) (a0_3:ByteArray) (a1_0:Int) (a1_1:Int) (a1_2:Int) (a1_3:ByteArray) (r:Int) (w:World) (h:Amo.f k a0_0 a0_1 a0_2 a0_3 a1_0 a1_1 a1_2 a1_3 = some r) :
  Calls Try.prog 76 #[.agg #[.int .i64 a0_0, .int .i64 a0_1, .int .i64 a0_2, .string a0_3], .agg #[.int .i64 a1_0, .int .i64 a1_1, .int .i64 a1_2, .string a1_3]] w fun e w'=>e = .returned (.int .i64 r) ∧ Below w.heap.size w w':=by
 have hu28:=Try.underlying28
 have HB:=z_ (Below.refl w.heap.size w)
 have H:((Aeo.f a0_0 a1_0).bind fun t103=>(if t103 = 0 then (if a0_0 = 1 then (Amo.j0 k a0_0 (a0_0 == 1) a0_0 a0_1 a0_2 a0_3 a1_0 a1_1 a1_2 a1_3) else (Amo.j0 k a0_0 (a0_0 == 2) a0_0 a0_1 a0_2 a0_3 a1_0 a1_1 a1_2 a1_3)) else (some t103))) = some r:=h
 clear h
 replace H:=Option.bind_eq_some_iff.mp H
 obtain ⟨t103,A30,H⟩:=H
 replace H:(if t103 = 0 then (if a0_0 = 1 then (Amo.j0 k a0_0 (a0_0 == 1) a0_0 a0_1 a0_2 a0_3 a1_0 a1_1 a1_2 a1_3) else (Amo.j0 k a0_0 (a0_0 == 2) a0_0 a0_1 a0_2 a0_3 a1_0 a1_1 a1_2 a1_3)) else (some t103)) = some r:=H
 have A3:=z_ A30
 clear A30
 by_cases c4:t103 = 0
 ·rw [if_pos c4] at H
  have c4b0:(t103 == 0) = true:=beq_iff_eq.mpr c4
  have c4b1:(t103 != 0) = false:=bne_eq_false_iff_eq.mpr c4
  clear c4
  have HC5:=z_ H
  clear H
  go_enter Try.func76,Try.ntmps76
  go_upto_if 21 with (first|((with_reducible refine gate_dst (N:=2) rfl ?_);refine box_event (by rfl) (N:=2) (by rfl) (cs:=#[.int .i64 a0_0, .int .i64 a0_1, .int .i64 a0_2, .string a0_3]) (t:=28) W3 ?_;intro gb101 hg w6 hbox hb;have BK101:=z_ (hbox);have GW101:=z_ ((W0:w.heap.size ≤ gb101));have GE101:=z_ ((W0:w.heap.size ≤ gb101));replace HB:=z_ (below_step W5 hb);clear hb hbox hg)|((with_reducible refine gate_dst (N:=3) rfl ?_);refine box_event (by rfl) (N:=3) (by rfl) (cs:=#[.int .i64 a1_0, .int .i64 a1_1, .int .i64 a1_2, .string a1_3]) (t:=28) W3 ?_;intro gb102 hg w7 hbox hb;have BK102:=z_ (hbox);have GW102:=z_ ((W6:w.heap.size ≤ gb102));have GE102:=z_ ((W6:w.heap.size ≤ gb102));replace HB:=z_ (below_step zp1 hb);have NB101_102:=z_ ((Amm:gb101 ≠ gb102));have NB102_101:=z_ ((Aml:gb102 ≠ gb101));replace BK101:=z_ (zk BK101.out hb);clear hb hbox hg;have hnb8:=NB101_102.out;have hnc8:=NB102_101.out;obtain ⟨_,_,_,_,_,_,_,_⟩:=Rr BK101.out;obtain ⟨_,_,_,_,_,_,_,_⟩:=Rr BK102.out)|((with_reducible refine gate_callee (f:=82) rfl ?_);refine goesL_ (some 15) rfl rfl Try.func82 (by kernel_rfl) rfl #[.int .i64 a0_0, .int .i64 a1_0] rfl W4 ?_;(with_reducible refine (Aeo.calls a0_0 a1_0 t103 _ A3.out).mono ?_);rintro e w' ⟨rfl,⟨nd,rfl⟩⟩;refine ⟨_,rfl,?_⟩))
  (try simp only [Act.put,List.setIfInBounds_toArray,List.set_cons_zero,List.set_cons_succ])
  go_cut [21] (fun v21 wc=>∃ (kq:Nat) (x21_4:Bool),v21 = .bool x21_4 ∧ Aside0 (Amo.j0 kq a0_0 x21_4 a0_0 a0_1 a0_2 a0_3 a1_0 a1_1 a1_2 a1_3 = some r) ∧ Aside0 (kq ≤ k) ∧ Aside0 (wc.heap[gb101]? = some (.cells #[.int .i64 a0_0, .int .i64 a0_1, .int .i64 a0_2, .string a0_3] 28 (0,0))) ∧ Aside0 (wc.heap[gb102]? = some (.cells #[.int .i64 a1_0, .int .i64 a1_1, .int .i64 a1_2, .string a1_3] 28 (0,0))) ∧ Aside0 (Below w.heap.size w wc))
  case first =>
   have H:=HC5.out
   clear HC5
   by_cases c11:a0_0 = 1
   ·rw [if_pos c11] at H
    have c11b0:(a0_0 == 1) = true:=beq_iff_eq.mpr c11
    have c11b1:(a0_0 != 1) = false:=bne_eq_false_iff_eq.mpr c11
    clear c11
    (first|rw [c11b0]|(simp only [i64_w,i32_w];rw [c11b0])|skip)
    have H':=z_ H
    clear H
    go_wp2
    go_meet
    case rel=>exact ⟨_,((a0_0 == 1)),Adz,H',⟨by first|omega|exact Nat.le_refl _⟩,⟨by (with_reducible repeat first|apply Jx|apply A7|apply K0);exact BK101.out⟩,⟨by (with_reducible repeat first|apply Jx|apply A7|apply K0);exact BK102.out⟩,⟨by repeat first|(with_reducible first|exact HB.out|apply zA|apply zN|apply z1|refine zS ?_ GE101.out|refine zS ?_ GE102.out)|exact HB.out⟩⟩
   ·rw [if_neg c11] at H
    have c11b0:(a0_0 == 1) = false:=beq_eq_false_iff_ne.mpr c11
    have c11b1:(a0_0 != 1) = true:=bne_iff_ne.mpr c11
    (first|rw [c11b0]|(simp only [i64_w,i32_w];rw [c11b0])|skip)
    have H':=z_ H
    clear H
    go_wp2
    go_meet
    case rel=>exact ⟨_,((a0_0 == 2)),Adz,H',⟨by first|omega|exact Nat.le_refl _⟩,⟨by (with_reducible repeat first|apply Jx|apply A7|apply K0);exact BK101.out⟩,⟨by (with_reducible repeat first|apply Jx|apply A7|apply K0);exact BK102.out⟩,⟨by repeat first|(with_reducible first|exact HB.out|apply zA|apply zN|apply z1|refine zS ?_ GE101.out|refine zS ?_ GE102.out)|exact HB.out⟩⟩
  case rest =>
   clear HC5
   try clear c1
   try clear p2
   try clear c4
   try clear c4b0
   try clear c4b1
   try clear c7
   try clear c8
   try clear c11
   try clear c11b0
   try clear c11b1
   try clear hcz10_0
   try clear hcz10_1
   try clear hcz10_2
   try clear hcz10_3
   try clear hcz9_0
   try clear hcz9_1
   try clear hcz9_2
   try clear hcz9_3
   try clear hfz10_0
   try clear hfz10_1
   try clear hfz10_2
   try clear hfz10_3
   try clear hfz9_0
   try clear hfz9_1
   try clear hfz9_2
   try clear hfz9_3
   obtain ⟨kq,x21_4,rfl,HA,HJ4,BK101,BK102,HB⟩:=hcut
   cases kq with
   | zero=>exact absurd HA.out (by simp [Amo.j0])
   | succ kj4 =>
    have H:=HA.out
    clear HA
    simp only [Amo.j0] at H
    by_cases c12:x21_4 = true
    ·subst c12
     have H1:((Aeo.f a0_1 a1_1).bind fun t104=>(some t104)) = some r:=by rw [if_pos rfl] at H;exact H
     clear H
     have H:=H1
     clear H1
     replace H:=Option.bind_eq_some_iff.mp H
     obtain ⟨t104,A130,H⟩:=H
     replace H:(some t104) = some r:=H
     have A13:=z_ A130
     clear A130
     obtain rfl:=Option.some.inj H
     have hnb14:=NB101_102.out
     have hnc14:=NB102_101.out
     obtain ⟨_,_,_,_,_,_,_,_⟩:=Rr BK101.out
     obtain ⟨_,_,_,_,_,_,_,_⟩:=Rr BK102.out
     go_wp2_with (first|((with_reducible refine gate_callee (f:=82) rfl ?_);refine goesL_ (some 28) rfl rfl Try.func82 (by kernel_rfl) rfl #[.int .i64 a0_1, .int .i64 a1_1] rfl W4 ?_;(with_reducible refine (Aeo.calls a0_1 a1_1 t104 _ A13.out).mono ?_);rintro e w' ⟨rfl,⟨nd,rfl⟩⟩;refine ⟨_,rfl,?_⟩))
     go_ret
     exact ⟨by first|rfl|(simp [errW_none,errW_some] <;> rfl)|(simp [*,errW_none,errW_some] <;> rfl),by repeat first|(with_reducible first|exact HB.out|apply zA|apply zN|apply z1|refine zS ?_ GE101.out|refine zS ?_ GE102.out)|exact HB.out⟩
    ·replace c12:=Bool.eq_false_iff.mpr c12
     subst c12
     have H1:(if a0_0 = 3 then ((Aer.f kj4 a0_0 a0_1 a0_2 a0_3).bind fun bt105=>((Aer.f kj4 a1_0 a1_1 a1_2 a1_3).bind fun bt107=>((Aeo.f bt105.1 bt107.1).bind fun t109=>(if t109 = 0 then ((Aeo.f bt105.2 bt107.2).bind fun t110=>(some t110)) else (some t109))))) else ((A17.f a0_3 a1_3).bind fun t111=>(some t111))) = some r:=by rw [if_neg (show ¬ (false = true) by decide)] at H;exact H
     clear H
     have H:=H1
     clear H1
     by_cases c17:a0_0 = 3
     ·rw [if_pos c17] at H
      have c17b0:(a0_0 == 3) = true:=beq_iff_eq.mpr c17
      have c17b1:(a0_0 != 3) = false:=bne_eq_false_iff_eq.mpr c17
      clear c17
      replace H:=Option.bind_eq_some_iff.mp H
      obtain ⟨⟨t105,t106⟩,A180,H⟩:=H
      replace H:((Aer.f kj4 a1_0 a1_1 a1_2 a1_3).bind fun bt107=>((Aeo.f t105 bt107.1).bind fun t109=>(if t109 = 0 then ((Aeo.f t106 bt107.2).bind fun t110=>(some t110)) else (some t109)))) = some r:=H
      have A18:=z_ A180
      clear A180
      replace H:=Option.bind_eq_some_iff.mp H
      obtain ⟨⟨t107,t108⟩,A190,H⟩:=H
      replace H:((Aeo.f t105 t107).bind fun t109=>(if t109 = 0 then ((Aeo.f t106 t108).bind fun t110=>(some t110)) else (some t109))) = some r:=H
      have A19:=z_ A190
      clear A190
      replace H:=Option.bind_eq_some_iff.mp H
      obtain ⟨t109,A200,H⟩:=H
      replace H:(if t109 = 0 then ((Aeo.f t106 t108).bind fun t110=>(some t110)) else (some t109)) = some r:=H
      have A20:=z_ A200
      clear A200
      by_cases c21:t109 = 0
      ·rw [if_pos c21] at H
       have c21b0:(t109 == 0) = true:=beq_iff_eq.mpr c21
       have c21b1:(t109 != 0) = false:=bne_eq_false_iff_eq.mpr c21
       clear c21
       replace H:=Option.bind_eq_some_iff.mp H
       obtain ⟨t110,A220,H⟩:=H
       replace H:(some t110) = some r:=H
       have A22:=z_ A220
       clear A220
       obtain rfl:=Option.some.inj H
       have hnb23:=NB101_102.out
       have hnc23:=NB102_101.out
       obtain ⟨_,_,_,_,_,_,_,_⟩:=Rr BK101.out
       go_wp2_with (first|((with_reducible refine gate_callee (f:=69) rfl ?_);refine goesL_ (some 33) rfl rfl Try.func69 (by kernel_rfl) rfl #[.agg #[.int .i64 a0_0, .int .i64 a0_1, .int .i64 a0_2, .string a0_3]] rfl W4 ?_;(with_reducible refine (Aer.calls kj4 a0_0 a0_1 a0_2 a0_3 t105 t106 _ A18.out).mono ?_);rintro e w25 ⟨rfl,hb⟩;refine ⟨_,rfl,?_⟩;replace BK101:=z_ (zk BK101.out hb);replace BK102:=z_ (zk BK102.out hb);replace HB:=z_ (below_step zp5 hb);(try clear hb);(try clear hb2);(try clear hk);(try clear hi);obtain ⟨_,_,_,_,_,_,_,_⟩:=Rr BK102.out)|((with_reducible refine gate_callee (f:=69) rfl ?_);refine goesL_ (some 38) rfl rfl Try.func69 (by kernel_rfl) rfl #[.agg #[.int .i64 a1_0, .int .i64 a1_1, .int .i64 a1_2, .string a1_3]] rfl W4 ?_;(with_reducible refine (Aer.calls kj4 a1_0 a1_1 a1_2 a1_3 t107 t108 _ A19.out).mono ?_);rintro e w27 ⟨rfl,hb⟩;refine ⟨_,rfl,?_⟩;replace BK101:=z_ (zk BK101.out hb);replace BK102:=z_ (zk BK102.out hb);replace HB:=z_ (below_step zp5 hb);(try clear hb);(try clear hb2);(try clear hk);(try clear hi))|((with_reducible refine gate_callee (f:=82) rfl ?_);refine goesL_ (some 43) rfl rfl Try.func82 (by kernel_rfl) rfl #[.int .i64 t105, .int .i64 t107] rfl W4 ?_;(with_reducible refine (Aeo.calls t105 t107 t109 _ A20.out).mono ?_);rintro e w' ⟨rfl,⟨nd,rfl⟩⟩;refine ⟨_,rfl,?_⟩)|((with_reducible refine gate_callee (f:=82) rfl ?_);refine goesL_ (some 49) rfl rfl Try.func82 (by kernel_rfl) rfl #[.int .i64 t106, .int .i64 t108] rfl W4 ?_;(with_reducible refine (Aeo.calls t106 t108 t110 _ A22.out).mono ?_);rintro e w' ⟨rfl,⟨nd,rfl⟩⟩;refine ⟨_,rfl,?_⟩))
       go_ret
       exact ⟨by first|rfl|(simp [errW_none,errW_some] <;> rfl)|(simp [*,errW_none,errW_some] <;> rfl),by repeat first|(with_reducible first|exact HB.out|apply zA|apply zN|apply z1|refine zS ?_ GE101.out|refine zS ?_ GE102.out)|exact HB.out⟩
      ·rw [if_neg c21] at H
       have c21b0:(t109 == 0) = false:=beq_eq_false_iff_ne.mpr c21
       have c21b1:(t109 != 0) = true:=bne_iff_ne.mpr c21
       obtain rfl:=Option.some.inj H
       have hnb28:=NB101_102.out
       have hnc28:=NB102_101.out
       obtain ⟨_,_,_,_,_,_,_,_⟩:=Rr BK101.out
       go_wp2_with (first|((with_reducible refine gate_callee (f:=69) rfl ?_);refine goesL_ (some 33) rfl rfl Try.func69 (by kernel_rfl) rfl #[.agg #[.int .i64 a0_0, .int .i64 a0_1, .int .i64 a0_2, .string a0_3]] rfl W4 ?_;(with_reducible refine (Aer.calls kj4 a0_0 a0_1 a0_2 a0_3 t105 t106 _ A18.out).mono ?_);rintro e w30 ⟨rfl,hb⟩;refine ⟨_,rfl,?_⟩;replace BK101:=z_ (zk BK101.out hb);replace BK102:=z_ (zk BK102.out hb);replace HB:=z_ (below_step zp5 hb);(try clear hb);(try clear hb2);(try clear hk);(try clear hi);obtain ⟨_,_,_,_,_,_,_,_⟩:=Rr BK102.out)|((with_reducible refine gate_callee (f:=69) rfl ?_);refine goesL_ (some 38) rfl rfl Try.func69 (by kernel_rfl) rfl #[.agg #[.int .i64 a1_0, .int .i64 a1_1, .int .i64 a1_2, .string a1_3]] rfl W4 ?_;(with_reducible refine (Aer.calls kj4 a1_0 a1_1 a1_2 a1_3 t107 t108 _ A19.out).mono ?_);rintro e w32 ⟨rfl,hb⟩;refine ⟨_,rfl,?_⟩;replace BK101:=z_ (zk BK101.out hb);replace BK102:=z_ (zk BK102.out hb);replace HB:=z_ (below_step zp5 hb);(try clear hb);(try clear hb2);(try clear hk);(try clear hi))|((with_reducible refine gate_callee (f:=82) rfl ?_);refine goesL_ (some 43) rfl rfl Try.func82 (by kernel_rfl) rfl #[.int .i64 t105, .int .i64 t107] rfl W4 ?_;(with_reducible refine (Aeo.calls t105 t107 t109 _ A20.out).mono ?_);rintro e w' ⟨rfl,⟨nd,rfl⟩⟩;refine ⟨_,rfl,?_⟩))
       go_ret
       exact ⟨by first|rfl|(simp [errW_none,errW_some] <;> rfl)|(simp [*,errW_none,errW_some] <;> rfl),by repeat first|(with_reducible first|exact HB.out|apply zA|apply zN|apply z1|refine zS ?_ GE101.out|refine zS ?_ GE102.out)|exact HB.out⟩
     ·rw [if_neg c17] at H
      have c17b0:(a0_0 == 3) = false:=beq_eq_false_iff_ne.mpr c17
      have c17b1:(a0_0 != 3) = true:=bne_iff_ne.mpr c17
      replace H:=Option.bind_eq_some_iff.mp H
      obtain ⟨t111,A330,H⟩:=H
      replace H:(some t111) = some r:=H
      have A33:=z_ A330
      clear A330
      obtain rfl:=Option.some.inj H
      have hnb34:=NB101_102.out
      have hnc34:=NB102_101.out
      obtain ⟨_,_,_,_,_,_,_,_⟩:=Rr BK101.out
      obtain ⟨_,_,_,_,_,_,_,_⟩:=Rr BK102.out
      go_wp2_with (first|((with_reducible refine gate_callee (f:=83) rfl ?_);refine goesL_ (some 54) rfl rfl Try.func83 (by kernel_rfl) rfl #[.string a0_3, .string a1_3] rfl W4 ?_;(with_reducible refine (A17.calls a0_3 a1_3 t111 _ A33.out).mono ?_);rintro e w' ⟨rfl,⟨nd,rfl⟩⟩;refine ⟨_,rfl,?_⟩))
      go_ret
      exact ⟨by first|rfl|(simp [errW_none,errW_some] <;> rfl)|(simp [*,errW_none,errW_some] <;> rfl),by repeat first|(with_reducible first|exact HB.out|apply zA|apply zN|apply z1|refine zS ?_ GE101.out|refine zS ?_ GE102.out)|exact HB.out⟩
 ·rw [if_neg c4] at H
  have c4b0:(t103 == 0) = false:=beq_eq_false_iff_ne.mpr c4
  have c4b1:(t103 != 0) = true:=bne_iff_ne.mpr c4
  obtain rfl:=Option.some.inj H
  go_enter Try.func76,Try.ntmps76
  go_wp2_with (first|((with_reducible refine gate_dst (N:=2) rfl ?_);refine box_event (by rfl) (N:=2) (by rfl) (cs:=#[.int .i64 a0_0, .int .i64 a0_1, .int .i64 a0_2, .string a0_3]) (t:=28) W3 ?_;intro gb101 hg w37 hbox hb;have BK101:=z_ (hbox);have GW101:=z_ ((W0:w.heap.size ≤ gb101));have GE101:=z_ ((W0:w.heap.size ≤ gb101));replace HB:=z_ (below_step W5 hb);clear hb hbox hg)|((with_reducible refine gate_dst (N:=3) rfl ?_);refine box_event (by rfl) (N:=3) (by rfl) (cs:=#[.int .i64 a1_0, .int .i64 a1_1, .int .i64 a1_2, .string a1_3]) (t:=28) W3 ?_;intro gb102 hg w38 hbox hb;have BK102:=z_ (hbox);have GW102:=z_ ((W6:w.heap.size ≤ gb102));have GE102:=z_ ((W6:w.heap.size ≤ gb102));replace HB:=z_ (below_step zp1 hb);have NB101_102:=z_ ((Amm:gb101 ≠ gb102));have NB102_101:=z_ ((Aml:gb102 ≠ gb101));replace BK101:=z_ (zk BK101.out hb);clear hb hbox hg;have hnb39:=NB101_102.out;have hnc39:=NB102_101.out;obtain ⟨_,_,_,_,_,_,_,_⟩:=Rr BK101.out;obtain ⟨_,_,_,_,_,_,_,_⟩:=Rr BK102.out)|((with_reducible refine gate_callee (f:=82) rfl ?_);refine goesL_ (some 15) rfl rfl Try.func82 (by kernel_rfl) rfl #[.int .i64 a0_0, .int .i64 a1_0] rfl W4 ?_;(with_reducible refine (Aeo.calls a0_0 a1_0 t103 _ A3.out).mono ?_);rintro e w' ⟨rfl,⟨nd,rfl⟩⟩;refine ⟨_,rfl,?_⟩))
  go_ret
  exact ⟨by first|rfl|(simp [errW_none,errW_some] <;> rfl)|(simp [*,errW_none,errW_some] <;> rfl),by repeat first|(with_reducible first|exact HB.out|apply zA|apply zN|apply z1|refine zS ?_ GE101.out|refine zS ?_ GE102.out)|exact HB.out⟩
end Go.Proofs.Ytglffgneikoeaaa.M
namespace Go.Proofs.Ytglffgneikoeaaa.M
open Go.RowKit Go.Proofs.YtglffgneikoeaaaW.PrintWords Go.Proofs.YtglffgneikoeaaaW.PrintLast Go.Proofs.YtglffgneikoeaaaW.PrintMore
attribute [local go_sem] max2_int min2_int max_two min_two max_three min_three max_four min_four
attribute [local go_sem high] own_gtr own_leq own_geq own_cell_set Option.map_some
set_option linter.unusedVariables false
set_option linter.unusedSimpArgs false
def cmp_isNaN_int.f (a0:Int):Option (Bool):=some (a0 != a0)
set_option maxHeartbeats 8000000 in
set_option maxRecDepth 100000 in
theorem cmp_isNaN_int.calls (a0:Int) (r:Bool) (w:World) (h:cmp_isNaN_int.f a0 = some r) :
  Calls Try.prog 96 #[.int .i64 a0] w fun e w'=>e = .returned (.bool r) ∧ Drawn0 w w':=by
 have H:(some (a0 != a0)) = some r:=h
 clear h
 obtain rfl:=Option.some.inj H
 go_enter Try.func96,Try.ntmps96
 go_wp2
 go_ret
 exact ⟨by first|rfl|(simp;done)|(simp [*];done),by repeat (first|exact Drawn0.refl _|apply Drawn0.step)⟩
end Go.Proofs.Ytglffgneikoeaaa.M
namespace Go.Proofs.Ytglffgneikoeaaa.M
open Go.RowKit Go.Proofs.YtglffgneikoeaaaW.PrintWords Go.Proofs.YtglffgneikoeaaaW.PrintLast Go.Proofs.YtglffgneikoeaaaW.PrintMore
attribute [local go_sem] max2_int min2_int max_two min_two max_three min_three max_four min_four
attribute [local go_sem high] own_gtr own_leq own_geq own_cell_set Option.map_some
set_option linter.unusedVariables false
set_option linter.unusedSimpArgs false
def cmp_Compare_int.f (a0:Int) (a1:Int):Option (Int):=(cmp_isNaN_int.f a0).bind fun t101=>((cmp_isNaN_int.f a1).bind fun t102=>(if t101 = true then (if t102 = true then (some 0) else (some (-1))) else (if t102 = true then (some 1) else (if a0 < a1 then (some (-1)) else (if a0 > a1 then (some 1) else (some 0))))))
set_option maxHeartbeats 8000000 in
set_option maxRecDepth 100000 in
theorem cmp_Compare_int.calls (a0:Int) (a1:Int) (r:Int) (w:World) (h:cmp_Compare_int.f a0 a1 = some r) :
  Calls Try.prog 84 #[.int .i64 a0, .int .i64 a1] w fun e w'=>e = .returned (.int .i64 r) ∧ Drawn0 w w':=by
 have H:((cmp_isNaN_int.f a0).bind fun t101=>((cmp_isNaN_int.f a1).bind fun t102=>(if t101 = true then (if t102 = true then (some 0) else (some (-1))) else (if t102 = true then (some 1) else (if a0 < a1 then (some (-1)) else (if a0 > a1 then (some 1) else (some 0))))))) = some r:=h
 clear h
 replace H:=Option.bind_eq_some_iff.mp H
 obtain ⟨t101,A30,H⟩:=H
 replace H:((cmp_isNaN_int.f a1).bind fun t102=>(if t101 = true then (if t102 = true then (some 0) else (some (-1))) else (if t102 = true then (some 1) else (if a0 < a1 then (some (-1)) else (if a0 > a1 then (some 1) else (some 0)))))) = some r:=H
 have A3:=z_ A30
 clear A30
 replace H:=Option.bind_eq_some_iff.mp H
 obtain ⟨t102,A40,H⟩:=H
 replace H:(if t101 = true then (if t102 = true then (some 0) else (some (-1))) else (if t102 = true then (some 1) else (if a0 < a1 then (some (-1)) else (if a0 > a1 then (some 1) else (some 0))))) = some r:=H
 have A4:=z_ A40
 clear A40
 by_cases c5:t101 = true
 ·subst c5
  have H1:(if t102 = true then (some 0) else (some (-1))) = some r:=by rw [if_pos rfl] at H;exact H
  clear H
  have H:=H1
  clear H1
  by_cases c6:t102 = true
  ·subst c6
   have H1:(some 0) = some r:=by rw [if_pos rfl] at H;exact H
   clear H
   have H:=H1
   clear H1
   obtain rfl:=Option.some.inj H
   go_enter Try.func84,Try.ntmps84
   go_wp2_with (first|((with_reducible refine gate_callee (f:=96) rfl ?_);refine goesL_ (some 8) rfl rfl Try.func96 (by kernel_rfl) rfl #[.int .i64 a0] rfl W4 ?_;(with_reducible refine (cmp_isNaN_int.calls a0 true _ A3.out).mono ?_);rintro e w' ⟨rfl,⟨nd,rfl⟩⟩;refine ⟨_,rfl,?_⟩)|((with_reducible refine gate_callee (f:=96) rfl ?_);refine goesL_ (some 10) rfl rfl Try.func96 (by kernel_rfl) rfl #[.int .i64 a1] rfl W4 ?_;(with_reducible refine (cmp_isNaN_int.calls a1 true _ A4.out).mono ?_);rintro e w' ⟨rfl,⟨nd,rfl⟩⟩;refine ⟨_,rfl,?_⟩))
   go_ret
   exact ⟨by first|rfl|(simp;done)|(simp [*];done),by repeat (first|exact Drawn0.refl _|apply Drawn0.step)⟩
  ·replace c6:=Bool.eq_false_iff.mpr c6
   subst c6
   have H1:(some (-1)) = some r:=by rw [if_neg (show ¬ (false = true) by decide)] at H;exact H
   clear H
   have H:=H1
   clear H1
   obtain rfl:=Option.some.inj H
   go_enter Try.func84,Try.ntmps84
   go_wp2_with (first|((with_reducible refine gate_callee (f:=96) rfl ?_);refine goesL_ (some 8) rfl rfl Try.func96 (by kernel_rfl) rfl #[.int .i64 a0] rfl W4 ?_;(with_reducible refine (cmp_isNaN_int.calls a0 true _ A3.out).mono ?_);rintro e w' ⟨rfl,⟨nd,rfl⟩⟩;refine ⟨_,rfl,?_⟩)|((with_reducible refine gate_callee (f:=96) rfl ?_);refine goesL_ (some 10) rfl rfl Try.func96 (by kernel_rfl) rfl #[.int .i64 a1] rfl W4 ?_;(with_reducible refine (cmp_isNaN_int.calls a1 false _ A4.out).mono ?_);rintro e w' ⟨rfl,⟨nd,rfl⟩⟩;refine ⟨_,rfl,?_⟩))
   go_ret
   exact ⟨by first|rfl|(simp;done)|(simp [*];done),by repeat (first|exact Drawn0.refl _|apply Drawn0.step)⟩
 ·replace c5:=Bool.eq_false_iff.mpr c5
  subst c5
  have H1:(if t102 = true then (some 1) else (if a0 < a1 then (some (-1)) else (if a0 > a1 then (some 1) else (some 0)))) = some r:=by rw [if_neg (show ¬ (false = true) by decide)] at H;exact H
  clear H
  have H:=H1
  clear H1
  by_cases c7:t102 = true
  ·subst c7
   have H1:(some 1) = some r:=by rw [if_pos rfl] at H;exact H
   clear H
   have H:=H1
   clear H1
   obtain rfl:=Option.some.inj H
   go_enter Try.func84,Try.ntmps84
   go_wp2_with (first|((with_reducible refine gate_callee (f:=96) rfl ?_);refine goesL_ (some 8) rfl rfl Try.func96 (by kernel_rfl) rfl #[.int .i64 a0] rfl W4 ?_;(with_reducible refine (cmp_isNaN_int.calls a0 false _ A3.out).mono ?_);rintro e w' ⟨rfl,⟨nd,rfl⟩⟩;refine ⟨_,rfl,?_⟩)|((with_reducible refine gate_callee (f:=96) rfl ?_);refine goesL_ (some 10) rfl rfl Try.func96 (by kernel_rfl) rfl #[.int .i64 a1] rfl W4 ?_;(with_reducible refine (cmp_isNaN_int.calls a1 true _ A4.out).mono ?_);rintro e w' ⟨rfl,⟨nd,rfl⟩⟩;refine ⟨_,rfl,?_⟩))
   go_ret
   exact ⟨by first|rfl|(simp;done)|(simp [*];done),by repeat (first|exact Drawn0.refl _|apply Drawn0.step)⟩
  ·replace c7:=Bool.eq_false_iff.mpr c7
   subst c7
   have H1:(if a0 < a1 then (some (-1)) else (if a0 > a1 then (some 1) else (some 0))) = some r:=by rw [if_neg (show ¬ (false = true) by decide)] at H;exact H
   clear H
   have H:=H1
   clear H1
   by_cases c8:a0 < a1
   ·rw [if_pos c8] at H
    have c8b0:decide (a0 < a1) = true:=decide_eq_true c8
    clear c8
    obtain rfl:=Option.some.inj H
    go_enter Try.func84,Try.ntmps84
    go_wp2_with (first|((with_reducible refine gate_callee (f:=96) rfl ?_);refine goesL_ (some 8) rfl rfl Try.func96 (by kernel_rfl) rfl #[.int .i64 a0] rfl W4 ?_;(with_reducible refine (cmp_isNaN_int.calls a0 false _ A3.out).mono ?_);rintro e w' ⟨rfl,⟨nd,rfl⟩⟩;refine ⟨_,rfl,?_⟩)|((with_reducible refine gate_callee (f:=96) rfl ?_);refine goesL_ (some 10) rfl rfl Try.func96 (by kernel_rfl) rfl #[.int .i64 a1] rfl W4 ?_;(with_reducible refine (cmp_isNaN_int.calls a1 false _ A4.out).mono ?_);rintro e w' ⟨rfl,⟨nd,rfl⟩⟩;refine ⟨_,rfl,?_⟩))
    go_ret
    exact ⟨by first|rfl|(simp;done)|(simp [*];done),by repeat (first|exact Drawn0.refl _|apply Drawn0.step)⟩
   ·rw [if_neg c8] at H
    have c8b0:decide (a0 < a1) = false:=decide_eq_false c8
    clear c8
    by_cases c9:a0 > a1
    ·rw [if_pos c9] at H
     have c9b0:decide (a1 < a0) = true:=decide_eq_true c9
     clear c9
     obtain rfl:=Option.some.inj H
     go_enter Try.func84,Try.ntmps84
     go_wp2_with (first|((with_reducible refine gate_callee (f:=96) rfl ?_);refine goesL_ (some 8) rfl rfl Try.func96 (by kernel_rfl) rfl #[.int .i64 a0] rfl W4 ?_;(with_reducible refine (cmp_isNaN_int.calls a0 false _ A3.out).mono ?_);rintro e w' ⟨rfl,⟨nd,rfl⟩⟩;refine ⟨_,rfl,?_⟩)|((with_reducible refine gate_callee (f:=96) rfl ?_);refine goesL_ (some 10) rfl rfl Try.func96 (by kernel_rfl) rfl #[.int .i64 a1] rfl W4 ?_;(with_reducible refine (cmp_isNaN_int.calls a1 false _ A4.out).mono ?_);rintro e w' ⟨rfl,⟨nd,rfl⟩⟩;refine ⟨_,rfl,?_⟩))
     go_ret
     exact ⟨by first|rfl|(simp;done)|(simp [*];done),by repeat (first|exact Drawn0.refl _|apply Drawn0.step)⟩
    ·rw [if_neg c9] at H
     have c9b0:decide (a1 < a0) = false:=decide_eq_false c9
     clear c9
     obtain rfl:=Option.some.inj H
     go_enter Try.func84,Try.ntmps84
     go_wp2_with (first|((with_reducible refine gate_callee (f:=96) rfl ?_);refine goesL_ (some 8) rfl rfl Try.func96 (by kernel_rfl) rfl #[.int .i64 a0] rfl W4 ?_;(with_reducible refine (cmp_isNaN_int.calls a0 false _ A3.out).mono ?_);rintro e w' ⟨rfl,⟨nd,rfl⟩⟩;refine ⟨_,rfl,?_⟩)|((with_reducible refine gate_callee (f:=96) rfl ?_);refine goesL_ (some 10) rfl rfl Try.func96 (by kernel_rfl) rfl #[.int .i64 a1] rfl W4 ?_;(with_reducible refine (cmp_isNaN_int.calls a1 false _ A4.out).mono ?_);rintro e w' ⟨rfl,⟨nd,rfl⟩⟩;refine ⟨_,rfl,?_⟩))
     go_ret
     exact ⟨by first|rfl|(simp;done)|(simp [*];done),by repeat (first|exact Drawn0.refl _|apply Drawn0.step)⟩
end Go.Proofs.Ytglffgneikoeaaa.M
namespace Go.Proofs.Ytglffgneikoeaaa.M
open Go.RowKit Go.Proofs.YtglffgneikoeaaaW.PrintWords Go.Proofs.YtglffgneikoeaaaW.PrintLast Go.Proofs.YtglffgneikoeaaaW.PrintMore
attribute [local go_sem] max2_int min2_int max_two min_two max_three min_three max_four min_four
attribute [local go_sem high] own_gtr own_leq own_geq own_cell_set Option.map_some
set_option linter.unusedVariables false
set_option linter.unusedSimpArgs false
def Amk.f (a0_0:Int) (a0_1:Int):Option (Int):=(cmp_Compare_int.f a0_0 a0_1).bind fun t102=>(some t102)
set_option maxHeartbeats 8000000 in
set_option maxRecDepth 100000 in
theorem Amk.calls (a0_0:Int) (a0_1:Int) (r:Int) (w:World) (h:Amk.f a0_0 a0_1 = some r) :
  Calls Try.prog 85 #[.agg #[.int .i64 a0_0, .int .i64 a0_1]] w fun e w'=>e = .returned (.int .i64 r) ∧ Below w.heap.size w w':=by
 have hu120:=Try.underlying120
 have HB:=z_ (Below.refl w.heap.size w)
 have H:((cmp_Compare_int.f a0_0 a0_1).bind fun t102=>(some t102)) = some r:=h
 clear h
 replace H:=Option.bind_eq_some_iff.mp H
 obtain ⟨t102,A20,H⟩:=H
 replace H:(some t102) = some r:=H
 have A2:=z_ A20
 clear A20
 obtain rfl:=Option.some.inj H
 go_enter Try.func85,Try.ntmps85
 go_wp2_with (first|((with_reducible refine gate_dst (N:=1) rfl ?_);refine box_event (by rfl) (N:=1) (by rfl) (cs:=#[.int .i64 a0_0, .int .i64 a0_1]) (t:=120) W3 ?_;intro gb101 hg w3 hbox hb;have BK101:=z_ (hbox);have GW101:=z_ ((W0:w.heap.size ≤ gb101));have GE101:=z_ ((W0:w.heap.size ≤ gb101));replace HB:=z_ (below_step W5 hb);clear hb hbox hg;obtain ⟨_,_,_,_⟩:=zc2 BK101.out)|((with_reducible refine gate_callee (f:=84) rfl ?_);refine goesL_ (some 7) rfl rfl Try.func84 (by kernel_rfl) rfl #[.int .i64 a0_0, .int .i64 a0_1] rfl W4 ?_;(with_reducible refine (cmp_Compare_int.calls a0_0 a0_1 t102 _ A2.out).mono ?_);rintro e w' ⟨rfl,⟨nd,rfl⟩⟩;refine ⟨_,rfl,?_⟩))
 go_ret
 exact ⟨by first|rfl|(simp [errW_none,errW_some] <;> rfl)|(simp [*,errW_none,errW_some] <;> rfl),by repeat first|(with_reducible first|exact HB.out|apply zA|apply zN|apply z1|refine zS ?_ GE101.out)|exact HB.out⟩
end Go.Proofs.Ytglffgneikoeaaa.M
namespace Go.Proofs.Ytglffgneikoeaaa.M
open Go.RowKit Go.Proofs.YtglffgneikoeaaaW.PrintWords Go.Proofs.YtglffgneikoeaaaW.PrintLast Go.Proofs.YtglffgneikoeaaaW.PrintMore
attribute [local go_sem] max2_int min2_int max_two min_two max_three min_three max_four min_four
attribute [local go_sem high] own_gtr own_leq own_geq own_cell_set Option.map_some
set_option linter.unusedVariables false
set_option linter.unusedSimpArgs false
def Amf.l0:Nat → Int → List Int → Int → Int → Option (Int)
 | 0,_,_,_,_=>none
 | k + 1,x3,x6,x7,x8=>if x8 < x7 then (if 0 ≤ x8 then (if x8 < (x6.length:Int) then (if (rd x6 x8) = x3 then (Amf.l0 k x3 x6 x7 (wrap64 (x8 + 1))) else (some (rd x6 x8))) else (none)) else (none)) else (some x3)
def Amf.f (k:Nat) (l0:List Int):Option (Int):=Amf.l0 k 0 l0 (l0.length:Int) 0
set_option maxHeartbeats 8000000 in
set_option maxRecDepth 100000 in
theorem Amf.calls (k:Nat) (A0:Option Addr) (c0:Nat) (l0:List Int) (r:Int) (w:World) (hr0:Kd.C (Kd.int .i64) w A0 l0.length l0) (hc0:l0.length ≤ c0) (h:Amf.f k l0 = some r) :
  Calls Try.prog 88 #[.slice A0 l0.length c0] w fun e w'=>e = .returned (.int .i64 r) ∧ Drawn0 w w':=by
 have HR0:=z_ hr0
 have HC0:=z_ hc0
 clear hr0 hc0
 have H:(Amf.l0 k 0 l0 (l0.length:Int) 0) = some r:=h
 clear h
 have H':=z_ H
 clear H
 go_enter Try.func88,Try.ntmps88
 go_wp2
 go_loopg [8] k (fun kq v8 w'=>∃ (x8_1:Int),v8 = .int .i64 x8_1 ∧ Aside0 (Amf.l0 kq 0 l0 (l0.length:Int) x8_1 = some r) ∧ Aside0 (kq ≤ k) ∧ Drawn0 w w')
 case atStart=>exact ⟨(0),Adz,H',⟨Nat.le_refl _⟩,by repeat (first|exact Drawn0.refl _|apply Drawn0.step)⟩
 case round =>
  clear H'
  obtain ⟨x8_1,rfl,HA,HK1,⟨m1,rfl⟩⟩:=hrel
  cases gk with
  | zero=>exact absurd HA.out (by simp [Amf.l0])
  | succ k1 =>
   have H:=HA.out
   clear HA
   simp only [Amf.l0] at H
   by_cases c2:x8_1 < (l0.length:Int)
   ·rw [if_pos c2] at H
    have c2b0:decide (x8_1 < (l0.length:Int)) = true:=decide_eq_true c2
    clear c2
    by_cases c3:0 ≤ x8_1
    ·rw [if_pos c3] at H
     have c3b0:decide (0 ≤ x8_1) = true:=decide_eq_true c3
     clear c3
     by_cases c4:x8_1 < (l0.length:Int)
     ·rw [if_pos c4] at H
      have c4b0:decide (x8_1 < (l0.length:Int)) = true:=decide_eq_true c4
      clear c4
      by_cases c5:(rd l0 x8_1) = 0
      ·rw [if_pos c5] at H
       have c5b0:((rd l0 x8_1) == 0) = true:=beq_iff_eq.mpr c5
       have c5b1:((rd l0 x8_1) != 0) = false:=bne_eq_false_iff_eq.mpr c5
       clear c5
       have H':=z_ H
       clear H
       have p101:0 ≤ (x8_1:Int):=of_decide_eq_true Aed
       have q101:x8_1 < (l0.length:Int):=of_decide_eq_true Aed
       obtain ⟨ad101,e101,hx101_0⟩:=Kd.at_int HR0.out x8_1 p101 q101
       cases e101
       replace p101:=eq_true p101
       replace q101:=eq_true q101
       go_wp2
       go_roundg k1
       case measure=>have:=HK1.out;omega
       case rel=>exact ⟨(wrap64 (x8_1 + 1)),Adz,H',⟨by have:=HK1.out;omega⟩,by repeat (first|exact Drawn0.refl _|apply Drawn0.step)⟩
      ·rw [if_neg c5] at H
       have c5b0:((rd l0 x8_1) == 0) = false:=beq_eq_false_iff_ne.mpr c5
       have c5b1:((rd l0 x8_1) != 0) = true:=bne_iff_ne.mpr c5
       obtain rfl:=Option.some.inj H
       have p101:0 ≤ (x8_1:Int):=of_decide_eq_true Aed
       have q101:x8_1 < (l0.length:Int):=of_decide_eq_true Aed
       obtain ⟨ad101,e101,hx101_0⟩:=Kd.at_int HR0.out x8_1 p101 q101
       cases e101
       replace p101:=eq_true p101
       replace q101:=eq_true q101
       go_wp2
       go_ret
       exact ⟨by first|rfl|(simp;done)|(simp [*];done),by repeat (first|exact Drawn0.refl _|apply Drawn0.step)⟩
     ·rw [if_neg c4] at H
      exact absurd H (by simp)
    ·rw [if_neg c3] at H
     exact absurd H (by simp)
   ·rw [if_neg c2] at H
    have c2b0:decide (x8_1 < (l0.length:Int)) = false:=decide_eq_false c2
    clear c2
    obtain rfl:=Option.some.inj H
    go_wp2
    go_ret
    exact ⟨by first|rfl|(simp;done)|(simp [*];done),by repeat (first|exact Drawn0.refl _|apply Drawn0.step)⟩
end Go.Proofs.Ytglffgneikoeaaa.M
namespace Go.Proofs
open Go.Shelf
def Try.lays106_ren : Go.Shelf.Ren := ⟨fun | 106 => 91 | 213 => 98 | 265 => 103 | n => n, fun | 9 => 9 | 3 => 3 | n => n, fun | n => n⟩
theorem Try.lays106 : Go.Proofs.Lays.n106 Try.prog Try.lays106_ren := {
  mixed := by kernel_rfl
  f106 := Try.func91.trans (congrArg some (by kernel_rfl))
  f213 := Try.func98.trans (congrArg some (by kernel_rfl))
  f265 := Try.func103.trans (congrArg some (by kernel_rfl))
  t3 := Try.underlying3
  a3 := Try.isAgg3
  z3 := Try.sizeOf3
  v3 := Try.zeroValue3
  t9 := Try.underlying9
  a9 := Try.isAgg9
  z9 := Try.sizeOf9
  v9 := Try.zeroValue9 }
open Go.RowKit in
theorem Try.strings_Compare (a b : ByteArray) (w : World) :
    Calls Try.prog 91 #[.string a, .string b] w fun e w' => e = .returned (.int .i64 (Lib.compareBytes a.data.toList b.data.toList)) ∧ w' = w := Any.strings_Compare Try.lays106 a b w
end Go.Proofs
namespace Go.Proofs.Ytglffgneikoeaaa.M
open Go.RowKit Go.Proofs.YtglffgneikoeaaaW.PrintWords Go.Proofs.YtglffgneikoeaaaW.PrintLast Go.Proofs.YtglffgneikoeaaaW.PrintMore
attribute [local go_sem] max2_int min2_int max_two min_two max_three min_three max_four min_four
attribute [local go_sem high] own_gtr own_leq own_geq own_cell_set Option.map_some
set_option linter.unusedVariables false
set_option linter.unusedSimpArgs false
def strings_Compare.f (a0 a1:ByteArray):Option Int:=some (Lib.compareBytes a0.data.toList a1.data.toList)
theorem strings_Compare.calls (a0 a1:ByteArray) (r:Int) (w:World) (h:strings_Compare.f a0 a1 = some r) :
  Calls Try.prog 91 #[.string a0, .string a1] w fun e w'=>e = .returned (.int .i64 r) ∧ Drawn0 w w':=by
 obtain rfl:=Option.some.inj h
 exact (Try.strings_Compare a0 a1 w).mono fun e w' ⟨he,hw⟩=>⟨he,by subst hw;exact Drawn0.refl _⟩
end Go.Proofs.Ytglffgneikoeaaa.M
namespace Go.Proofs.Ytglffgneikoeaaa.M
open Go.RowKit Go.Proofs.YtglffgneikoeaaaW.PrintWords Go.Proofs.YtglffgneikoeaaaW.PrintLast Go.Proofs.YtglffgneikoeaaaW.PrintMore
attribute [local go_sem] max2_int min2_int max_two min_two max_three min_three max_four min_four
attribute [local go_sem high] own_gtr own_leq own_geq own_cell_set Option.map_some
set_option linter.unusedVariables false
set_option linter.unusedSimpArgs false
def A0v.f (a0_0:Int) (a0_1:Int) (a0_2:Int) (a0_3:ByteArray):Option (Int):=some a0_1
set_option maxHeartbeats 8000000 in
set_option maxRecDepth 100000 in
theorem A0v.calls (a0_0:Int) (a0_1:Int) (a0_2:Int) (a0_3:ByteArray) (r:Int) (w:World) (h:A0v.f a0_0 a0_1 a0_2 a0_3 = some r) :
  Calls Try.prog 87 #[.agg #[.int .i64 a0_0, .int .i64 a0_1, .int .i64 a0_2, .string a0_3]] w fun e w'=>e = .returned (.int .i64 r) ∧ Below w.heap.size w w':=by
 have hu28:=Try.underlying28
 have HB:=z_ (Below.refl w.heap.size w)
 have H:(some a0_1) = some r:=h
 clear h
 obtain rfl:=Option.some.inj H
 go_enter Try.func87,Try.ntmps87
 go_wp2_with (first|((with_reducible refine gate_dst (N:=1) rfl ?_);refine box_event (by rfl) (N:=1) (by rfl) (cs:=#[.int .i64 a0_0, .int .i64 a0_1, .int .i64 a0_2, .string a0_3]) (t:=28) W3 ?_;intro gb101 hg w2 hbox hb;have BK101:=z_ (hbox);have GW101:=z_ ((W0:w.heap.size ≤ gb101));have GE101:=z_ ((W0:w.heap.size ≤ gb101));replace HB:=z_ (below_step W5 hb);clear hb hbox hg;obtain ⟨_,_,_,_,_,_,_,_⟩:=Rr BK101.out))
 go_ret
 exact ⟨by first|rfl|(simp [errW_none,errW_some] <;> rfl)|(simp [*,errW_none,errW_some] <;> rfl),by repeat first|(with_reducible first|exact HB.out|apply zA|apply zN|apply z1|refine zS ?_ GE101.out)|exact HB.out⟩
end Go.Proofs.Ytglffgneikoeaaa.M
namespace Go.Proofs.Ytglffgneikoeaaa.M
open Go.RowKit Go.Proofs.YtglffgneikoeaaaW.PrintWords Go.Proofs.YtglffgneikoeaaaW.PrintLast Go.Proofs.YtglffgneikoeaaaW.PrintMore
attribute [local go_sem] max2_int min2_int max_two min_two max_three min_three max_four min_four
attribute [local go_sem high] own_gtr own_leq own_geq own_cell_set Option.map_some
set_option linter.unusedVariables false
set_option linter.unusedSimpArgs false
def Amr.f (a0_0:Int) (a0_1:Int) (a0_2:Int) (a0_3:ByteArray) (a0_4:Int) (a0_5:Int) (a0_6:Int) (a0_7:ByteArray)  : Option (Int × Int):=(A0v.f a0_0 a0_1 a0_2 a0_3).bind fun t103=>((A0v.f a0_4 a0_5 a0_6 a0_7).bind fun t104=>(some (t103,t104)))
def Amr.T1:Bool × List (List Nat × List Nat):=(true,[([],[]),([],[]),([1],[1]),([0,2],[0,2]),([],[]),([],[]),([5],[5]),([4,6,3],[4,6]),([3,7],[3,7]),([8,7,0,1,2,3,4,5,6,7,8],[8])])
def Amr.B1:List Nat:=[0,0,2,7,0,0,32,127,255,511]
theorem Amr.tab1:rtab .any (opsOf Try.f86 1) = Amr.T1:=by kernel_rfl
theorem Amr.bits1:waitsOk Amr.T1.2 Amr.B1 = true:=by kernel_rfl
set_option maxHeartbeats 8000000 in
set_option maxRecDepth 100000 in
theorem Amr.calls (a0_0:Int) (a0_1:Int) (a0_2:Int) (a0_3:ByteArray) (a0_4:Int) (a0_5:Int) (a0_6:Int) (a0_7:ByteArray)  (r1:Int) (r2:Int) (w:World) (h:Amr.f a0_0 a0_1 a0_2 a0_3 a0_4 a0_5 a0_6 a0_7 = some (r1,r2)) :
  Calls Try.prog 86 #[.agg #[.int .i64 a0_0, .int .i64 a0_1, .int .i64 a0_2, .string a0_3, .int .i64 a0_4, .int .i64 a0_5, .int .i64 a0_6, .string a0_7], .func (.func 87) #[] #[]] w fun e w'=>e = .returned (.agg #[.int .i64 r1, .int .i64 r2]) ∧ Below w.heap.size w w':=by
 have hu117:=Try.underlying117
 have hu120:=Try.underlying120
 have hu28:=Try.underlying28
 have HB:=z_ (Below.refl w.heap.size w)
 have H:((A0v.f a0_0 a0_1 a0_2 a0_3).bind fun t103=>((A0v.f a0_4 a0_5 a0_6 a0_7).bind fun t104=>(some (t103,t104)))) = some (r1,r2):=h
 clear h
 replace H:=Option.bind_eq_some_iff.mp H
 obtain ⟨t103,A30,H⟩:=H
 replace H:((A0v.f a0_4 a0_5 a0_6 a0_7).bind fun t104=>(some (t103,t104))) = some (r1,r2):=H
 have A3:=z_ A30
 clear A30
 replace H:=Option.bind_eq_some_iff.mp H
 obtain ⟨t104,A40,H⟩:=H
 replace H:(some (t103,t104)) = some (r1,r2):=H
 have A4:=z_ A40
 clear A40
 simp only [Option.some.injEq,Prod.mk.injEq] at H
 obtain ⟨rfl,rfl⟩:=H
 go_enter Try.func86,Try.ntmps86
 try go_wp2_with (first|((with_reducible refine gate_dst (N:=2) rfl ?_);refine box_event (by rfl) (N:=2) (by rfl) (cs:=#[.int .i64 a0_0, .int .i64 a0_1, .int .i64 a0_2, .string a0_3, .int .i64 a0_4, .int .i64 a0_5, .int .i64 a0_6, .string a0_7]) (t:=117) W3 ?_;intro gb101 hg w5 hbox hb;have BK101:=z_ (hbox);have GW101:=z_ ((W0:w.heap.size ≤ gb101));have GE101:=z_ ((W0:w.heap.size ≤ gb101));replace HB:=z_ (below_step W5 hb);clear hb hbox hg)|((with_reducible refine gate_dst (N:=4) rfl ?_);refine box_event (by rfl) (N:=4) (by rfl) (cs:=#[.int .i64 0, .int .i64 0]) (t:=120) W3 ?_;intro gb102 hg w6 hbox hb;have BK102:=z_ (hbox);have GW102:=z_ ((W6:w.heap.size ≤ gb102));have GE102:=z_ ((W6:w.heap.size ≤ gb102));replace HB:=z_ (below_step zp1 hb);have NB101_102:=z_ ((A4t:gb101 ≠ gb102));have NB102_101:=z_ ((A4v:gb102 ≠ gb101));replace BK101:=z_ (zk BK101.out hb);clear hb hbox hg))
 have n0_:=z_ (A7 BK101.out)
 have n1_:=z_ (A7 BK102.out)
 have n2_:=z_ (z1 HB.out)
 clear BK101
 clear BK102
 clear HB
 have BK101:=n0_
 have BK102:=n1_
 have HB:=n2_
 clear n0_ n1_ n2_
 refine start_ (n:=10) (S:=fun w'=>w'.cell? ⟨gb101,0,none⟩ = some (.int .i64 a0_0) ∧ w'.cell? ⟨gb101,1,none⟩ = some (.int .i64 a0_1) ∧ w'.cell? ⟨gb101,2,none⟩ = some (.int .i64 a0_2) ∧ w'.cell? ⟨gb101,3,none⟩ = some (.string a0_3) ∧ w'.cell? ⟨gb101,4,none⟩ = some (.int .i64 a0_4) ∧ w'.cell? ⟨gb101,5,none⟩ = some (.int .i64 a0_5) ∧ w'.cell? ⟨gb101,6,none⟩ = some (.int .i64 a0_6) ∧ w'.cell? ⟨gb101,7,none⟩ = some (.string a0_7)) (ds:=[]) #[false,false,false,false,false,false,false,false,false,false] (by kernel_rfl) rfl rfl ⟨(Oi BK101.out 0).trans rfl,(Oi BK101.out 1).trans rfl,(Oi BK101.out 2).trans rfl,(Oi BK101.out 3).trans rfl,(Oi BK101.out 4).trans rfl,(Oi BK101.out 5).trans rfl,(Oi BK101.out 6).trans rfl,(Oi BK101.out 7).trans rfl⟩ (fun hHeld=>?_);refine with_tabW Amr.tab1 Amr.bits1 (fun HT_ HW_=>?_)
 generalize w6.drew = w7 at BK101 BK102 HB hHeld ⊢
 refine pure_ (i:=0) (N:=some 5) (v:=?_) (a':=?_) #[true,false,false,false,false,false,false,false,false,false] rfl rfl (any_of HT_.out (by kernel_rfl)) (fun _ _ _ h=>h) (Or.inl ⟨by rfl,?_⟩) ?_ ?_
 rotate_left
 ·intro w'
  go_simp
  with_reducible rfl
 rotate_left
 ·simp only [Act.put,List.setIfInBounds_toArray,List.set_cons_zero,List.set_cons_succ,i64_w,i32_w]
  rfl
 refine pure_ (i:=1) (N:=some 6) (v:=?_) (a':=?_) #[true,true,false,false,false,false,false,false,false,false] rfl rfl (any_of HT_.out (by kernel_rfl)) (fun _ _ _ h=>h) (Or.inl ⟨by rfl,?_⟩) ?_ ?_
 rotate_left
 ·intro w'
  go_simp
  with_reducible rfl
 rotate_left
 ·simp only [Act.put,List.setIfInBounds_toArray,List.set_cons_zero,List.set_cons_succ,i64_w,i32_w]
  rfl
 refine pure_ (i:=4) (N:=some 9) (v:=?_) (a':=?_) #[true,true,false,false,true,false,false,false,false,false] rfl rfl (any_of HT_.out (by kernel_rfl)) (fun _ _ _ h=>h) (Or.inl ⟨by rfl,?_⟩) ?_ ?_
 rotate_left
 ·intro w'
  go_simp
  with_reducible rfl
 rotate_left
 ·simp only [Act.put,List.setIfInBounds_toArray,List.set_cons_zero,List.set_cons_succ,i64_w,i32_w]
  rfl
 refine pure_ (i:=5) (N:=some 10) (v:=?_) (a':=?_) #[true,true,false,false,true,true,false,false,false,false] rfl rfl (any_of HT_.out (by kernel_rfl)) (fun _ _ _ h=>h) (Or.inl ⟨by rfl,?_⟩) ?_ ?_
 rotate_left
 ·intro w'
  go_simp
  with_reducible rfl
 rotate_left
 ·simp only [Act.put,List.setIfInBounds_toArray,List.set_cons_zero,List.set_cons_succ,i64_w,i32_w]
  rfl
 refine take_ (i:=2) (N:=some 7) (v:=?_) (a':=?_) #[true,true,true,false,true,true,false,false,false,false] rfl rfl (take_ofW HT_.out HW_.out (by kernel_rfl)) (fun _ _ _ h=>h) (Or.inl ⟨by rfl,?_⟩) hHeld ?_ ?_
 rotate_left
 ·rintro w' ⟨s0,s1,s2,s3,s4,s5,s6,s7⟩
  go_simp
  with_reducible rfl
 rotate_left
 ·simp only [Act.put,List.setIfInBounds_toArray,List.set_cons_zero,List.set_cons_succ,i64_w,i32_w]
  rfl
 refine take_ (i:=6) (N:=some 11) (v:=?_) (a':=?_) #[true,true,true,false,true,true,true,false,false,false] rfl rfl (take_ofW HT_.out HW_.out (by kernel_rfl)) (fun _ _ _ h=>h) (Or.inl ⟨by rfl,?_⟩) hHeld ?_ ?_
 rotate_left
 ·rintro w' ⟨s0,s1,s2,s3,s4,s5,s6,s7⟩
  go_simp
  with_reducible rfl
 rotate_left
 ·simp only [Act.put,List.setIfInBounds_toArray,List.set_cons_zero,List.set_cons_succ,i64_w,i32_w]
  rfl
 refine one_ (i:=3) (N:=some 8) #[true,true,true,true,true,true,true,false,false,false] rfl rfl (one_of HT_.out (by kernel_rfl)) (by decide) (fun K hK=>?_)
 refine goesd_ Try.func87 (by kernel_rfl) rfl #[.agg #[.int .i64 a0_0, .int .i64 a0_1, .int .i64 a0_2, .string a0_3]] (by rfl) rfl rfl rfl W4 ?_
 with_reducible refine (A0v.calls a0_0 a0_1 a0_2 a0_3 t103 _ A3.out).mono ?_
 rintro e w8 ⟨rfl,hb⟩
 refine ⟨_,rfl,?_⟩
 have n0_:=z_ (zk BK101.out hb)
 have n1_:=z_ (zk BK102.out hb)
 have n2_:=z_ (below_step zp5 hb)
 clear BK101
 clear BK102
 clear HB
 have BK101:=n0_
 have BK102:=n1_
 have HB:=n2_
 clear n0_ n1_ n2_
 (try clear hb)
 (try clear hb2)
 (try clear hk)
 (try clear hi)
 refine hK.out _ _ ⟨(Oi BK101.out 0).trans rfl,(Oi BK101.out 1).trans rfl,(Oi BK101.out 2).trans rfl,(Oi BK101.out 3).trans rfl,(Oi BK101.out 4).trans rfl,(Oi BK101.out 5).trans rfl,(Oi BK101.out 6).trans rfl,(Oi BK101.out 7).trans rfl⟩ (fun hHeld=>?_)
 clear hK K
 refine norm_ (a':=?_) ?_ ?_
 rotate_left
 ·show Act.put _ (some 8) _ = _
  simp only [Act.put,List.setIfInBounds_toArray,List.set_cons_zero,List.set_cons_succ,i64_w,i32_w]
  rfl
 refine one_ (i:=7) (N:=some 12) #[true,true,true,true,true,true,true,true,false,false] rfl rfl (one_of HT_.out (by kernel_rfl)) (by decide) (fun K hK=>?_)
 refine goesd_ Try.func87 (by kernel_rfl) rfl #[.agg #[.int .i64 a0_4, .int .i64 a0_5, .int .i64 a0_6, .string a0_7]] (by rfl) rfl rfl rfl W4 ?_
 with_reducible refine (A0v.calls a0_4 a0_5 a0_6 a0_7 t104 _ A4.out).mono ?_
 rintro e w9 ⟨rfl,hb⟩
 refine ⟨_,rfl,?_⟩
 have n0_:=z_ (zk BK101.out hb)
 have n1_:=z_ (zk BK102.out hb)
 have n2_:=z_ (below_step zp5 hb)
 clear BK101
 clear BK102
 clear HB
 have BK101:=n0_
 have BK102:=n1_
 have HB:=n2_
 clear n0_ n1_ n2_
 (try clear hb)
 (try clear hb2)
 (try clear hk)
 (try clear hi)
 refine hK.out _ _ ⟨(Oi BK101.out 0).trans rfl,(Oi BK101.out 1).trans rfl,(Oi BK101.out 2).trans rfl,(Oi BK101.out 3).trans rfl,(Oi BK101.out 4).trans rfl,(Oi BK101.out 5).trans rfl,(Oi BK101.out 6).trans rfl,(Oi BK101.out 7).trans rfl⟩ (fun hHeld=>?_)
 clear hK K
 refine norm_ (a':=?_) ?_ ?_
 rotate_left
 ·show Act.put _ (some 12) _ = _
  simp only [Act.put,List.setIfInBounds_toArray,List.set_cons_zero,List.set_cons_succ,i64_w,i32_w]
  rfl
 refine pure_ (i:=8) (N:=some 13) (v:=?_) (a':=?_) #[true,true,true,true,true,true,true,true,true,false] rfl rfl (any_of HT_.out (by kernel_rfl)) (fun _ _ _ h=>h) (Or.inl ⟨by rfl,?_⟩) ?_ ?_
 rotate_left
 ·intro w'
  go_simp
  with_reducible rfl
 rotate_left
 ·simp only [Act.put,List.setIfInBounds_toArray,List.set_cons_zero,List.set_cons_succ,i64_w,i32_w]
  rfl
 refine one_ (i:=9) (N:=none) #[true,true,true,true,true,true,true,true,true,true] rfl rfl (one_of HT_.out (by kernel_rfl)) (by decide) (fun K hK=>?_)
 have hs10:w9.cell? ⟨gb102,0,none⟩ = some (.int .i64 0):=(Oi BK102.out 0).trans rfl
 have hfs10:=S3 BK102.out 0
 have hns10_0:=NB101_102.out
 have hms10_0:=NB102_101.out
 have hs11:w9.cell? ⟨gb102,1,none⟩ = some (.int .i64 0):=(Oi BK102.out 1).trans rfl
 have hfs11:=S3 BK102.out 1
 have hns11_0:=NB101_102.out
 have hms11_0:=NB102_101.out
 refine skip_ (w1:=?_) (by rfl) rfl ?_ ?_
 rotate_left
 ·go_simp
  rfl
 refine hK.out _ _ ⟨((cell_far (p:=⟨gb102,_,none⟩) NB101_102.out _).trans (((cell_far (p:=⟨gb102,_,none⟩) NB101_102.out _).trans (hHeld.1)))),((cell_far (p:=⟨gb102,_,none⟩) NB101_102.out _).trans (((cell_far (p:=⟨gb102,_,none⟩) NB101_102.out _).trans (hHeld.2.1)))),((cell_far (p:=⟨gb102,_,none⟩) NB101_102.out _).trans (((cell_far (p:=⟨gb102,_,none⟩) NB101_102.out _).trans (hHeld.2.2.1)))),((cell_far (p:=⟨gb102,_,none⟩) NB101_102.out _).trans (((cell_far (p:=⟨gb102,_,none⟩) NB101_102.out _).trans (hHeld.2.2.2.1)))),((cell_far (p:=⟨gb102,_,none⟩) NB101_102.out _).trans (((cell_far (p:=⟨gb102,_,none⟩) NB101_102.out _).trans (hHeld.2.2.2.2.1)))),((cell_far (p:=⟨gb102,_,none⟩) NB101_102.out _).trans (((cell_far (p:=⟨gb102,_,none⟩) NB101_102.out _).trans (hHeld.2.2.2.2.2.1)))),((cell_far (p:=⟨gb102,_,none⟩) NB101_102.out _).trans (((cell_far (p:=⟨gb102,_,none⟩) NB101_102.out _).trans (hHeld.2.2.2.2.2.2.1)))),((cell_far (p:=⟨gb102,_,none⟩) NB101_102.out _).trans (((cell_far (p:=⟨gb102,_,none⟩) NB101_102.out _).trans (hHeld.2.2.2.2.2.2.2))))⟩ (fun hHeld=>?_)
 clear hK K
 refine done_ (done_of HT_.out (by kernel_rfl)) ?_
 try go_wp2
 refine bodyPost_ret (results_cell_row rfl _ _ gb102 120 #[.int .i64 t103, .int .i64 t104] (0,0) _ rfl A4u Try.underlying120 rfl (by kernel_rfl)) rfl ?_
 exact ⟨by first|rfl|(simp [errW_none,errW_some] <;> rfl)|(simp [*,errW_none,errW_some] <;> rfl),by repeat first|(with_reducible first|exact HB.out|apply zA|apply zN|apply z1|refine zS ?_ GE101.out|refine zS ?_ GE102.out)|exact HB.out⟩
end Go.Proofs.Ytglffgneikoeaaa.M
