-- Written by drive.py and pack.py (programs of this proof's own) through the kit's printer; not trusted: Lean checks it.
import Derived.Test.YtglffgneikoeaaaCEvalAll4
import Derived.Test.YtglffgneikoeaaaCEvalAll5
import Derived.Test.YtglffgneikoeaaaCEvalAll7
import Derived.Test.YtglffgneikoeaaaCEvalAll6
namespace Go.Proofs.Ytglffgneikoeaaa.M
open Go.RowKit Go.Proofs.YtglffgneikoeaaaW.PrintWords Go.Proofs.YtglffgneikoeaaaW.PrintLast Go.Proofs.YtglffgneikoeaaaW.PrintMore
attribute [local go_sem] max2_int min2_int max_two min_two max_three min_three max_four min_four
attribute [local go_sem high] own_gtr own_leq own_geq own_cell_set Option.map_some
set_option linter.unusedVariables false
set_option linter.unusedSimpArgs false
def A0x.f (k:Nat) (a0_0:Int) (a0_1:Int) (a0_2:Int) (a0_3:ByteArray):Option (Int):=(Ad2.f k (mn (mx a0_2 0) 6)).bind fun t102=>(if t102 = 0 then (none) else (some (wrap64 (Int.tdiv a0_1 t102))))
set_option maxHeartbeats 8000000 in
set_option maxRecDepth 100000 in
theorem A0x.calls (k:Nat) (a0_0:Int) (a0_1:Int) (a0_2:Int) (a0_3:ByteArray) (r:Int) (w:World) (h:A0x.f k a0_0 a0_1 a0_2 a0_3 = some r) :
  Calls Try.prog 89 #[.agg #[.int .i64 a0_0, .int .i64 a0_1, .int .i64 a0_2, .string a0_3]] w fun e w'=>e = .returned (.int .i64 r) ∧ Below w.heap.size w w':=by
 have hu28:=Try.underlying28
 have HB:=z_ (Below.refl w.heap.size w)
 have H:((Ad2.f k (mn (mx a0_2 0) 6)).bind fun t102=>(if t102 = 0 then (none) else (some (wrap64 (Int.tdiv a0_1 t102))))) = some r:=h
 clear h
 obtain ⟨ji2,hji2⟩:∃ j_:Int,(mx a0_2 0) = j_:=⟨_,rfl⟩
 replace H:((Ad2.f k (mn (ji2) 6)).bind fun t102=>(if t102 = 0 then (none) else (some (wrap64 (Int.tdiv a0_1 t102))))) = some r:=by first|(rw [hji2] at H;exact H)|(simp only [hji2] at H ⊢;exact H)
 (try (have hji2l:0 ≤ ji2:=by (rw [← hji2];unfold mx;(repeat' split) <;> omega)))
 (try (have hji2m:0 ≤ ji2:=by omega))
 have hji2_:(if a0_2 < 0 then 0 else a0_2) = ji2:=hji2
 obtain ⟨ji3,hji3⟩:∃ j_:Int,(mn (ji2) 6) = j_:=⟨_,rfl⟩
 replace H:((Ad2.f k (ji3)).bind fun t102=>(if t102 = 0 then (none) else (some (wrap64 (Int.tdiv a0_1 t102))))) = some r:=by first|(rw [hji3] at H;exact H)|(simp only [hji3] at H ⊢;exact H)
 have hji3_:(if 6 < (ji2) then 6 else (ji2)) = ji3:=hji3
 replace H:=Option.bind_eq_some_iff.mp H
 obtain ⟨t102,A40,H⟩:=H
 replace H:(if t102 = 0 then (none) else (some (wrap64 (Int.tdiv a0_1 t102)))) = some r:=H
 have A4:=z_ A40
 clear A40
 by_cases c5:t102 = 0
 ·rw [if_pos c5] at H
  exact absurd H (by simp)
 ·rw [if_neg c5] at H
  have c5b0:(t102 == 0) = false:=beq_eq_false_iff_ne.mpr c5
  have c5b1:(t102 != 0) = true:=bne_iff_ne.mpr c5
  obtain rfl:=Option.some.inj H
  go_enter Try.func89,Try.ntmps89
  go_wp2_with (first|((with_reducible refine gate_dst (N:=1) rfl ?_);refine box_event (by rfl) (N:=1) (by rfl) (cs:=#[.int .i64 a0_0, .int .i64 a0_1, .int .i64 a0_2, .string a0_3]) (t:=28) W3 ?_;intro gb101 hg w6 hbox hb;have BK101:=z_ (hbox);have GW101:=z_ ((W0:w.heap.size ≤ gb101));have GE101:=z_ ((W0:w.heap.size ≤ gb101));replace HB:=z_ (below_step W5 hb);clear hb hbox hg;obtain ⟨_,_,_,_,_,_,_,_⟩:=Rr BK101.out)|(go_at_call 97;(with_reducible refine (Ad2.calls k ji3 t102 _ A4.out).mono ?_);rintro e w' ⟨rfl,⟨nd,rfl⟩⟩;(try first|exact ⟨rfl,_,World.drewN_drewN _ _ _⟩|exact ⟨rfl,_,Eq.trans (World.drewN_drewN _ _ _) (congrArg (World.drewN _) (Nat.add_assoc _ _ _))⟩)))
  repeat (go_quiet (first|((with_reducible refine gate_dst (N:=1) rfl ?_);refine box_event (by rfl) (N:=1) (by rfl) (cs:=#[.int .i64 a0_0, .int .i64 a0_1, .int .i64 a0_2, .string a0_3]) (t:=28) W3 ?_;intro gb101 hg w6 hbox hb;have BK101:=z_ (hbox);have GW101:=z_ ((W0:w.heap.size ≤ gb101));have GE101:=z_ ((W0:w.heap.size ≤ gb101));replace HB:=z_ (below_step W5 hb);clear hb hbox hg;obtain ⟨_,_,_,_,_,_,_,_⟩:=Rr BK101.out)|(go_at_call 97;(with_reducible refine (Ad2.calls k ji3 t102 _ A4.out).mono ?_);rintro e w' ⟨rfl,⟨nd,rfl⟩⟩;(try first|exact ⟨rfl,_,World.drewN_drewN _ _ _⟩|exact ⟨rfl,_,Eq.trans (World.drewN_drewN _ _ _) (congrArg (World.drewN _) (Nat.add_assoc _ _ _))⟩)));try go_wp2_with (first|((with_reducible refine gate_dst (N:=1) rfl ?_);refine box_event (by rfl) (N:=1) (by rfl) (cs:=#[.int .i64 a0_0, .int .i64 a0_1, .int .i64 a0_2, .string a0_3]) (t:=28) W3 ?_;intro gb101 hg w6 hbox hb;have BK101:=z_ (hbox);have GW101:=z_ ((W0:w.heap.size ≤ gb101));have GE101:=z_ ((W0:w.heap.size ≤ gb101));replace HB:=z_ (below_step W5 hb);clear hb hbox hg;obtain ⟨_,_,_,_,_,_,_,_⟩:=Rr BK101.out)|(go_at_call 97;(with_reducible refine (Ad2.calls k ji3 t102 _ A4.out).mono ?_);rintro e w' ⟨rfl,⟨nd,rfl⟩⟩;(try first|exact ⟨rfl,_,World.drewN_drewN _ _ _⟩|exact ⟨rfl,_,Eq.trans (World.drewN_drewN _ _ _) (congrArg (World.drewN _) (Nat.add_assoc _ _ _))⟩))))
  go_ret
  exact ⟨by first|rfl|(simp [errW_none,errW_some] <;> rfl)|(simp only [← hji2,← hji3];first|rfl|(simp [errW_none,errW_some] <;> rfl))|(simp [*,errW_none,errW_some] <;> rfl),by repeat first|(with_reducible first|exact HB.out|apply zA|apply zN|apply z1|refine zS ?_ GE101.out)|exact HB.out⟩
end Go.Proofs.Ytglffgneikoeaaa.M
namespace Go.Proofs.Ytglffgneikoeaaa.M
open Go.RowKit Go.Proofs.YtglffgneikoeaaaW.PrintWords Go.Proofs.YtglffgneikoeaaaW.PrintLast Go.Proofs.YtglffgneikoeaaaW.PrintMore
attribute [local go_sem] max2_int min2_int max_two min_two max_three min_three max_four min_four
attribute [local go_sem high] own_gtr own_leq own_geq own_cell_set Option.map_some
set_option linter.unusedVariables false
set_option linter.unusedSimpArgs false
def Amw.f (k:Nat) (a0_0:Int) (a0_1:Int) (a0_2:Int) (a0_3:ByteArray) (a0_4:Int) (a0_5:Int) (a0_6:Int) (a0_7:ByteArray)  : Option (Int × Int):=(A0x.f k a0_0 a0_1 a0_2 a0_3).bind fun t103=>((A0x.f k a0_4 a0_5 a0_6 a0_7).bind fun t104=>(some (t103,t104)))
def Amw.T1:Bool × List (List Nat × List Nat):=(true,[([],[]),([],[]),([1],[1]),([0,2],[0,2]),([],[]),([],[]),([5],[5]),([4,6,3],[4,6]),([3,7],[3,7]),([8,7,0,1,2,3,4,5,6,7,8],[8])])
def Amw.B1:List Nat:=[0,0,2,7,0,0,32,127,255,511]
theorem Amw.tab1:rtab .any (opsOf Try.f86 1) = Amw.T1:=by kernel_rfl
theorem Amw.bits1:waitsOk Amw.T1.2 Amw.B1 = true:=by kernel_rfl
set_option maxHeartbeats 8000000 in
set_option maxRecDepth 100000 in
theorem Amw.calls (k:Nat) (a0_0:Int) (a0_1:Int) (a0_2:Int) (a0_3:ByteArray) (a0_4:Int) (a0_5:Int) (a0_6:Int) (a0_7:ByteArray)  (r1:Int) (r2:Int) (w:World) (h:Amw.f k a0_0 a0_1 a0_2 a0_3 a0_4 a0_5 a0_6 a0_7 = some (r1,r2)) :
  Calls Try.prog 86 #[.agg #[.int .i64 a0_0, .int .i64 a0_1, .int .i64 a0_2, .string a0_3, .int .i64 a0_4, .int .i64 a0_5, .int .i64 a0_6, .string a0_7], .func (.func 89) #[] #[]] w fun e w'=>e = .returned (.agg #[.int .i64 r1, .int .i64 r2]) ∧ Below w.heap.size w w':=by
 have hu117:=Try.underlying117
 have hu120:=Try.underlying120
 have hu28:=Try.underlying28
 have HB:=z_ (Below.refl w.heap.size w)
 have H:((A0x.f k a0_0 a0_1 a0_2 a0_3).bind fun t103=>((A0x.f k a0_4 a0_5 a0_6 a0_7).bind fun t104=>(some (t103,t104)))) = some (r1,r2):=h
 clear h
 replace H:=Option.bind_eq_some_iff.mp H
 obtain ⟨t103,A30,H⟩:=H
 replace H:((A0x.f k a0_4 a0_5 a0_6 a0_7).bind fun t104=>(some (t103,t104))) = some (r1,r2):=H
 have A3:=z_ A30
 clear A30
 replace H:=Option.bind_eq_some_iff.mp H
 obtain ⟨t104,A40,H⟩:=H
 replace H:(some (t103,t104)) = some (r1,r2):=H
 have A4:=z_ A40
 clear A40
 simp only [Option.some.injEq,Prod.mk.injEq] at H
 obtain ⟨rfl,rfl⟩:=H
 go_enter Try.func86,Try.ntmps86
 try go_wp2_with (first|((with_reducible refine gate_dst (N:=2) rfl ?_);refine box_event (by rfl) (N:=2) (by rfl) (cs:=#[.int .i64 a0_0, .int .i64 a0_1, .int .i64 a0_2, .string a0_3, .int .i64 a0_4, .int .i64 a0_5, .int .i64 a0_6, .string a0_7]) (t:=117) W3 ?_;intro gb101 hg w5 hbox hb;have BK101:=z_ (hbox);have GW101:=z_ ((W0:w.heap.size ≤ gb101));have GE101:=z_ ((W0:w.heap.size ≤ gb101));replace HB:=z_ (below_step W5 hb);clear hb hbox hg)|((with_reducible refine gate_dst (N:=4) rfl ?_);refine box_event (by rfl) (N:=4) (by rfl) (cs:=#[.int .i64 0, .int .i64 0]) (t:=120) W3 ?_;intro gb102 hg w6 hbox hb;have BK102:=z_ (hbox);have GW102:=z_ ((W6:w.heap.size ≤ gb102));have GE102:=z_ ((W6:w.heap.size ≤ gb102));replace HB:=z_ (below_step zp1 hb);have NB101_102:=z_ ((A4t:gb101 ≠ gb102));have NB102_101:=z_ ((A4v:gb102 ≠ gb101));replace BK101:=z_ (zk BK101.out hb);clear hb hbox hg))
 have n0_:=z_ (A7 BK101.out)
 have n1_:=z_ (A7 BK102.out)
 have n2_:=z_ (z1 HB.out)
 clear BK101
 clear BK102
 clear HB
 have BK101:=n0_
 have BK102:=n1_
 have HB:=n2_
 clear n0_ n1_ n2_
 refine start_ (n:=10) (S:=fun w'=>w'.cell? ⟨gb101,0,none⟩ = some (.int .i64 a0_0) ∧ w'.cell? ⟨gb101,1,none⟩ = some (.int .i64 a0_1) ∧ w'.cell? ⟨gb101,2,none⟩ = some (.int .i64 a0_2) ∧ w'.cell? ⟨gb101,3,none⟩ = some (.string a0_3) ∧ w'.cell? ⟨gb101,4,none⟩ = some (.int .i64 a0_4) ∧ w'.cell? ⟨gb101,5,none⟩ = some (.int .i64 a0_5) ∧ w'.cell? ⟨gb101,6,none⟩ = some (.int .i64 a0_6) ∧ w'.cell? ⟨gb101,7,none⟩ = some (.string a0_7)) (ds:=[]) #[false,false,false,false,false,false,false,false,false,false] (by kernel_rfl) rfl rfl ⟨(Oi BK101.out 0).trans rfl,(Oi BK101.out 1).trans rfl,(Oi BK101.out 2).trans rfl,(Oi BK101.out 3).trans rfl,(Oi BK101.out 4).trans rfl,(Oi BK101.out 5).trans rfl,(Oi BK101.out 6).trans rfl,(Oi BK101.out 7).trans rfl⟩ (fun hHeld=>?_);refine with_tabW Amw.tab1 Amw.bits1 (fun HT_ HW_=>?_)
 generalize w6.drew = w7 at BK101 BK102 HB hHeld ⊢
 refine pure_ (i:=0) (N:=some 5) (v:=?_) (a':=?_) #[true,false,false,false,false,false,false,false,false,false] rfl rfl (any_of HT_.out (by kernel_rfl)) (fun _ _ _ h=>h) (Or.inl ⟨by rfl,?_⟩) ?_ ?_
 rotate_left
 ·intro w'
  go_simp
  with_reducible rfl
 rotate_left
 ·simp only [Act.put,List.setIfInBounds_toArray,List.set_cons_zero,List.set_cons_succ,i64_w,i32_w]
  rfl
 refine pure_ (i:=1) (N:=some 6) (v:=?_) (a':=?_) #[true,true,false,false,false,false,false,false,false,false] rfl rfl (any_of HT_.out (by kernel_rfl)) (fun _ _ _ h=>h) (Or.inl ⟨by rfl,?_⟩) ?_ ?_
 rotate_left
 ·intro w'
  go_simp
  with_reducible rfl
 rotate_left
 ·simp only [Act.put,List.setIfInBounds_toArray,List.set_cons_zero,List.set_cons_succ,i64_w,i32_w]
  rfl
 refine pure_ (i:=4) (N:=some 9) (v:=?_) (a':=?_) #[true,true,false,false,true,false,false,false,false,false] rfl rfl (any_of HT_.out (by kernel_rfl)) (fun _ _ _ h=>h) (Or.inl ⟨by rfl,?_⟩) ?_ ?_
 rotate_left
 ·intro w'
  go_simp
  with_reducible rfl
 rotate_left
 ·simp only [Act.put,List.setIfInBounds_toArray,List.set_cons_zero,List.set_cons_succ,i64_w,i32_w]
  rfl
 refine pure_ (i:=5) (N:=some 10) (v:=?_) (a':=?_) #[true,true,false,false,true,true,false,false,false,false] rfl rfl (any_of HT_.out (by kernel_rfl)) (fun _ _ _ h=>h) (Or.inl ⟨by rfl,?_⟩) ?_ ?_
 rotate_left
 ·intro w'
  go_simp
  with_reducible rfl
 rotate_left
 ·simp only [Act.put,List.setIfInBounds_toArray,List.set_cons_zero,List.set_cons_succ,i64_w,i32_w]
  rfl
 refine take_ (i:=2) (N:=some 7) (v:=?_) (a':=?_) #[true,true,true,false,true,true,false,false,false,false] rfl rfl (take_ofW HT_.out HW_.out (by kernel_rfl)) (fun _ _ _ h=>h) (Or.inl ⟨by rfl,?_⟩) hHeld ?_ ?_
 rotate_left
 ·rintro w' ⟨s0,s1,s2,s3,s4,s5,s6,s7⟩
  go_simp
  with_reducible rfl
 rotate_left
 ·simp only [Act.put,List.setIfInBounds_toArray,List.set_cons_zero,List.set_cons_succ,i64_w,i32_w]
  rfl
 refine take_ (i:=6) (N:=some 11) (v:=?_) (a':=?_) #[true,true,true,false,true,true,true,false,false,false] rfl rfl (take_ofW HT_.out HW_.out (by kernel_rfl)) (fun _ _ _ h=>h) (Or.inl ⟨by rfl,?_⟩) hHeld ?_ ?_
 rotate_left
 ·rintro w' ⟨s0,s1,s2,s3,s4,s5,s6,s7⟩
  go_simp
  with_reducible rfl
 rotate_left
 ·simp only [Act.put,List.setIfInBounds_toArray,List.set_cons_zero,List.set_cons_succ,i64_w,i32_w]
  rfl
 refine one_ (i:=3) (N:=some 8) #[true,true,true,true,true,true,true,false,false,false] rfl rfl (one_of HT_.out (by kernel_rfl)) (by decide) (fun K hK=>?_)
 refine goesd_ Try.func89 (by kernel_rfl) rfl #[.agg #[.int .i64 a0_0, .int .i64 a0_1, .int .i64 a0_2, .string a0_3]] (by rfl) rfl rfl rfl W4 ?_
 with_reducible refine (A0x.calls k a0_0 a0_1 a0_2 a0_3 t103 _ A3.out).mono ?_
 rintro e w8 ⟨rfl,hb⟩
 refine ⟨_,rfl,?_⟩
 have n0_:=z_ (zk BK101.out hb)
 have n1_:=z_ (zk BK102.out hb)
 have n2_:=z_ (below_step zp5 hb)
 clear BK101
 clear BK102
 clear HB
 have BK101:=n0_
 have BK102:=n1_
 have HB:=n2_
 clear n0_ n1_ n2_
 (try clear hb)
 (try clear hb2)
 (try clear hk)
 (try clear hi)
 refine hK.out _ _ ⟨(Oi BK101.out 0).trans rfl,(Oi BK101.out 1).trans rfl,(Oi BK101.out 2).trans rfl,(Oi BK101.out 3).trans rfl,(Oi BK101.out 4).trans rfl,(Oi BK101.out 5).trans rfl,(Oi BK101.out 6).trans rfl,(Oi BK101.out 7).trans rfl⟩ (fun hHeld=>?_)
 clear hK K
 refine norm_ (a':=?_) ?_ ?_
 rotate_left
 ·show Act.put _ (some 8) _ = _
  simp only [Act.put,List.setIfInBounds_toArray,List.set_cons_zero,List.set_cons_succ,i64_w,i32_w]
  rfl
 refine one_ (i:=7) (N:=some 12) #[true,true,true,true,true,true,true,true,false,false] rfl rfl (one_of HT_.out (by kernel_rfl)) (by decide) (fun K hK=>?_)
 refine goesd_ Try.func89 (by kernel_rfl) rfl #[.agg #[.int .i64 a0_4, .int .i64 a0_5, .int .i64 a0_6, .string a0_7]] (by rfl) rfl rfl rfl W4 ?_
 with_reducible refine (A0x.calls k a0_4 a0_5 a0_6 a0_7 t104 _ A4.out).mono ?_
 rintro e w9 ⟨rfl,hb⟩
 refine ⟨_,rfl,?_⟩
 have n0_:=z_ (zk BK101.out hb)
 have n1_:=z_ (zk BK102.out hb)
 have n2_:=z_ (below_step zp5 hb)
 clear BK101
 clear BK102
 clear HB
 have BK101:=n0_
 have BK102:=n1_
 have HB:=n2_
 clear n0_ n1_ n2_
 (try clear hb)
 (try clear hb2)
 (try clear hk)
 (try clear hi)
 refine hK.out _ _ ⟨(Oi BK101.out 0).trans rfl,(Oi BK101.out 1).trans rfl,(Oi BK101.out 2).trans rfl,(Oi BK101.out 3).trans rfl,(Oi BK101.out 4).trans rfl,(Oi BK101.out 5).trans rfl,(Oi BK101.out 6).trans rfl,(Oi BK101.out 7).trans rfl⟩ (fun hHeld=>?_)
 clear hK K
 refine norm_ (a':=?_) ?_ ?_
 rotate_left
 ·show Act.put _ (some 12) _ = _
  simp only [Act.put,List.setIfInBounds_toArray,List.set_cons_zero,List.set_cons_succ,i64_w,i32_w]
  rfl
 refine pure_ (i:=8) (N:=some 13) (v:=?_) (a':=?_) #[true,true,true,true,true,true,true,true,true,false] rfl rfl (any_of HT_.out (by kernel_rfl)) (fun _ _ _ h=>h) (Or.inl ⟨by rfl,?_⟩) ?_ ?_
 rotate_left
 ·intro w'
  go_simp
  with_reducible rfl
 rotate_left
 ·simp only [Act.put,List.setIfInBounds_toArray,List.set_cons_zero,List.set_cons_succ,i64_w,i32_w]
  rfl
 refine one_ (i:=9) (N:=none) #[true,true,true,true,true,true,true,true,true,true] rfl rfl (one_of HT_.out (by kernel_rfl)) (by decide) (fun K hK=>?_)
 have hs10:w9.cell? ⟨gb102,0,none⟩ = some (.int .i64 0):=(Oi BK102.out 0).trans rfl
 have hfs10:=S3 BK102.out 0
 have hns10_0:=NB101_102.out
 have hms10_0:=NB102_101.out
 have hs11:w9.cell? ⟨gb102,1,none⟩ = some (.int .i64 0):=(Oi BK102.out 1).trans rfl
 have hfs11:=S3 BK102.out 1
 have hns11_0:=NB101_102.out
 have hms11_0:=NB102_101.out
 refine skip_ (w1:=?_) (by rfl) rfl ?_ ?_
 rotate_left
 ·go_simp
  rfl
 refine hK.out _ _ ⟨((cell_far (p:=⟨gb102,_,none⟩) NB101_102.out _).trans (((cell_far (p:=⟨gb102,_,none⟩) NB101_102.out _).trans (hHeld.1)))),((cell_far (p:=⟨gb102,_,none⟩) NB101_102.out _).trans (((cell_far (p:=⟨gb102,_,none⟩) NB101_102.out _).trans (hHeld.2.1)))),((cell_far (p:=⟨gb102,_,none⟩) NB101_102.out _).trans (((cell_far (p:=⟨gb102,_,none⟩) NB101_102.out _).trans (hHeld.2.2.1)))),((cell_far (p:=⟨gb102,_,none⟩) NB101_102.out _).trans (((cell_far (p:=⟨gb102,_,none⟩) NB101_102.out _).trans (hHeld.2.2.2.1)))),((cell_far (p:=⟨gb102,_,none⟩) NB101_102.out _).trans (((cell_far (p:=⟨gb102,_,none⟩) NB101_102.out _).trans (hHeld.2.2.2.2.1)))),((cell_far (p:=⟨gb102,_,none⟩) NB101_102.out _).trans (((cell_far (p:=⟨gb102,_,none⟩) NB101_102.out _).trans (hHeld.2.2.2.2.2.1)))),((cell_far (p:=⟨gb102,_,none⟩) NB101_102.out _).trans (((cell_far (p:=⟨gb102,_,none⟩) NB101_102.out _).trans (hHeld.2.2.2.2.2.2.1)))),((cell_far (p:=⟨gb102,_,none⟩) NB101_102.out _).trans (((cell_far (p:=⟨gb102,_,none⟩) NB101_102.out _).trans (hHeld.2.2.2.2.2.2.2))))⟩ (fun hHeld=>?_)
 clear hK K
 refine done_ (done_of HT_.out (by kernel_rfl)) ?_
 try go_wp2
 refine bodyPost_ret (results_cell_row rfl _ _ gb102 120 #[.int .i64 t103, .int .i64 t104] (0,0) _ rfl A4u Try.underlying120 rfl (by kernel_rfl)) rfl ?_
 exact ⟨by first|rfl|(simp [errW_none,errW_some] <;> rfl)|(simp [*,errW_none,errW_some] <;> rfl),by repeat first|(with_reducible first|exact HB.out|apply zA|apply zN|apply z1|refine zS ?_ GE101.out|refine zS ?_ GE102.out)|exact HB.out⟩
end Go.Proofs.Ytglffgneikoeaaa.M
namespace Go.Proofs.Ytglffgneikoeaaa.M
open Go.RowKit Go.Proofs.YtglffgneikoeaaaW.PrintWords Go.Proofs.YtglffgneikoeaaaW.PrintLast Go.Proofs.YtglffgneikoeaaaW.PrintMore
attribute [local go_sem] max2_int min2_int max_two min_two max_three min_three max_four min_four
attribute [local go_sem high] own_gtr own_leq own_geq own_cell_set Option.map_some
set_option linter.unusedVariables false
set_option linter.unusedSimpArgs false
def A0y.f (k:Nat) (a0_0:Int) (a0_1:Int) (a0_2:Int) (a0_3:ByteArray):Option (Int):=(Ad2.f k (mn (mx a0_2 0) 6)).bind fun t102=>(if t102 = 0 then (none) else ((Ad2.f k 6).bind fun t103=>(some (wrap64 ((Int.tmod a0_1 t102) * (wrap64 (Int.tdiv t103 t102)))))))
set_option maxHeartbeats 8000000 in
set_option maxRecDepth 100000 in
theorem A0y.calls (k:Nat) (a0_0:Int) (a0_1:Int) (a0_2:Int) (a0_3:ByteArray) (r:Int) (w:World) (h:A0y.f k a0_0 a0_1 a0_2 a0_3 = some r) :
  Calls Try.prog 90 #[.agg #[.int .i64 a0_0, .int .i64 a0_1, .int .i64 a0_2, .string a0_3]] w fun e w'=>e = .returned (.int .i64 r) ∧ Below w.heap.size w w':=by
 have hu28:=Try.underlying28
 have HB:=z_ (Below.refl w.heap.size w)
 have H:((Ad2.f k (mn (mx a0_2 0) 6)).bind fun t102=>(if t102 = 0 then (none) else ((Ad2.f k 6).bind fun t103=>(some (wrap64 ((Int.tmod a0_1 t102) * (wrap64 (Int.tdiv t103 t102)))))))) = some r:=h
 clear h
 obtain ⟨ji2,hji2⟩:∃ j_:Int,(mx a0_2 0) = j_:=⟨_,rfl⟩
 replace H:((Ad2.f k (mn (ji2) 6)).bind fun t102=>(if t102 = 0 then (none) else ((Ad2.f k 6).bind fun t103=>(some (wrap64 ((Int.tmod a0_1 t102) * (wrap64 (Int.tdiv t103 t102)))))))) = some r:=by first|(rw [hji2] at H;exact H)|(simp only [hji2] at H ⊢;exact H)
 (try (have hji2l:0 ≤ ji2:=by (rw [← hji2];unfold mx;(repeat' split) <;> omega)))
 (try (have hji2m:0 ≤ ji2:=by omega))
 have hji2_:(if a0_2 < 0 then 0 else a0_2) = ji2:=hji2
 obtain ⟨ji3,hji3⟩:∃ j_:Int,(mn (ji2) 6) = j_:=⟨_,rfl⟩
 replace H:((Ad2.f k (ji3)).bind fun t102=>(if t102 = 0 then (none) else ((Ad2.f k 6).bind fun t103=>(some (wrap64 ((Int.tmod a0_1 t102) * (wrap64 (Int.tdiv t103 t102)))))))) = some r:=by first|(rw [hji3] at H;exact H)|(simp only [hji3] at H ⊢;exact H)
 have hji3_:(if 6 < (ji2) then 6 else (ji2)) = ji3:=hji3
 replace H:=Option.bind_eq_some_iff.mp H
 obtain ⟨t102,A40,H⟩:=H
 replace H:(if t102 = 0 then (none) else ((Ad2.f k 6).bind fun t103=>(some (wrap64 ((Int.tmod a0_1 t102) * (wrap64 (Int.tdiv t103 t102))))))) = some r:=H
 have A4:=z_ A40
 clear A40
 by_cases c5:t102 = 0
 ·rw [if_pos c5] at H
  exact absurd H (by simp)
 ·rw [if_neg c5] at H
  have c5b0:(t102 == 0) = false:=beq_eq_false_iff_ne.mpr c5
  have c5b1:(t102 != 0) = true:=bne_iff_ne.mpr c5
  replace H:=Option.bind_eq_some_iff.mp H
  obtain ⟨t103,A60,H⟩:=H
  replace H:(some (wrap64 ((Int.tmod a0_1 t102) * (wrap64 (Int.tdiv t103 t102))))) = some r:=H
  have A6:=z_ A60
  clear A60
  obtain rfl:=Option.some.inj H
  go_enter Try.func90,Try.ntmps90
  go_wp2_with (first|((with_reducible refine gate_dst (N:=1) rfl ?_);refine box_event (by rfl) (N:=1) (by rfl) (cs:=#[.int .i64 a0_0, .int .i64 a0_1, .int .i64 a0_2, .string a0_3]) (t:=28) W3 ?_;intro gb101 hg w7 hbox hb;have BK101:=z_ (hbox);have GW101:=z_ ((W0:w.heap.size ≤ gb101));have GE101:=z_ ((W0:w.heap.size ≤ gb101));replace HB:=z_ (below_step W5 hb);clear hb hbox hg;obtain ⟨_,_,_,_,_,_,_,_⟩:=Rr BK101.out)|(go_at_call 97;(with_reducible refine (Ad2.calls k ji3 t102 _ A4.out).mono ?_);rintro e w' ⟨rfl,⟨nd,rfl⟩⟩;(try first|exact ⟨rfl,_,World.drewN_drewN _ _ _⟩|exact ⟨rfl,_,Eq.trans (World.drewN_drewN _ _ _) (congrArg (World.drewN _) (Nat.add_assoc _ _ _))⟩))|(go_at_call 97;(with_reducible refine (Ad2.calls k 6 t103 _ A6.out).mono ?_);rintro e w' ⟨rfl,⟨nd,rfl⟩⟩;(try first|exact ⟨rfl,_,World.drewN_drewN _ _ _⟩|exact ⟨rfl,_,Eq.trans (World.drewN_drewN _ _ _) (congrArg (World.drewN _) (Nat.add_assoc _ _ _))⟩)))
  repeat (go_quiet (first|((with_reducible refine gate_dst (N:=1) rfl ?_);refine box_event (by rfl) (N:=1) (by rfl) (cs:=#[.int .i64 a0_0, .int .i64 a0_1, .int .i64 a0_2, .string a0_3]) (t:=28) W3 ?_;intro gb101 hg w7 hbox hb;have BK101:=z_ (hbox);have GW101:=z_ ((W0:w.heap.size ≤ gb101));have GE101:=z_ ((W0:w.heap.size ≤ gb101));replace HB:=z_ (below_step W5 hb);clear hb hbox hg;obtain ⟨_,_,_,_,_,_,_,_⟩:=Rr BK101.out)|(go_at_call 97;(with_reducible refine (Ad2.calls k ji3 t102 _ A4.out).mono ?_);rintro e w' ⟨rfl,⟨nd,rfl⟩⟩;(try first|exact ⟨rfl,_,World.drewN_drewN _ _ _⟩|exact ⟨rfl,_,Eq.trans (World.drewN_drewN _ _ _) (congrArg (World.drewN _) (Nat.add_assoc _ _ _))⟩))|(go_at_call 97;(with_reducible refine (Ad2.calls k 6 t103 _ A6.out).mono ?_);rintro e w' ⟨rfl,⟨nd,rfl⟩⟩;(try first|exact ⟨rfl,_,World.drewN_drewN _ _ _⟩|exact ⟨rfl,_,Eq.trans (World.drewN_drewN _ _ _) (congrArg (World.drewN _) (Nat.add_assoc _ _ _))⟩)));try go_wp2_with (first|((with_reducible refine gate_dst (N:=1) rfl ?_);refine box_event (by rfl) (N:=1) (by rfl) (cs:=#[.int .i64 a0_0, .int .i64 a0_1, .int .i64 a0_2, .string a0_3]) (t:=28) W3 ?_;intro gb101 hg w7 hbox hb;have BK101:=z_ (hbox);have GW101:=z_ ((W0:w.heap.size ≤ gb101));have GE101:=z_ ((W0:w.heap.size ≤ gb101));replace HB:=z_ (below_step W5 hb);clear hb hbox hg;obtain ⟨_,_,_,_,_,_,_,_⟩:=Rr BK101.out)|(go_at_call 97;(with_reducible refine (Ad2.calls k ji3 t102 _ A4.out).mono ?_);rintro e w' ⟨rfl,⟨nd,rfl⟩⟩;(try first|exact ⟨rfl,_,World.drewN_drewN _ _ _⟩|exact ⟨rfl,_,Eq.trans (World.drewN_drewN _ _ _) (congrArg (World.drewN _) (Nat.add_assoc _ _ _))⟩))|(go_at_call 97;(with_reducible refine (Ad2.calls k 6 t103 _ A6.out).mono ?_);rintro e w' ⟨rfl,⟨nd,rfl⟩⟩;(try first|exact ⟨rfl,_,World.drewN_drewN _ _ _⟩|exact ⟨rfl,_,Eq.trans (World.drewN_drewN _ _ _) (congrArg (World.drewN _) (Nat.add_assoc _ _ _))⟩))))
  go_ret
  exact ⟨by first|rfl|(simp [errW_none,errW_some] <;> rfl)|(simp only [← hji2,← hji3];first|rfl|(simp [errW_none,errW_some] <;> rfl))|(simp [*,errW_none,errW_some] <;> rfl),by repeat first|(with_reducible first|exact HB.out|apply zA|apply zN|apply z1|refine zS ?_ GE101.out)|exact HB.out⟩
end Go.Proofs.Ytglffgneikoeaaa.M
namespace Go.Proofs.Ytglffgneikoeaaa.M
open Go.RowKit Go.Proofs.YtglffgneikoeaaaW.PrintWords Go.Proofs.YtglffgneikoeaaaW.PrintLast Go.Proofs.YtglffgneikoeaaaW.PrintMore
attribute [local go_sem] max2_int min2_int max_two min_two max_three min_three max_four min_four
attribute [local go_sem high] own_gtr own_leq own_geq own_cell_set Option.map_some
set_option linter.unusedVariables false
set_option linter.unusedSimpArgs false
def Amn.f (k:Nat) (a0_0:Int) (a0_1:Int) (a0_2:Int) (a0_3:ByteArray) (a0_4:Int) (a0_5:Int) (a0_6:Int) (a0_7:ByteArray)  : Option (Int × Int):=(A0y.f k a0_0 a0_1 a0_2 a0_3).bind fun t103=>((A0y.f k a0_4 a0_5 a0_6 a0_7).bind fun t104=>(some (t103,t104)))
def Amn.T1:Bool × List (List Nat × List Nat):=(true,[([],[]),([],[]),([1],[1]),([0,2],[0,2]),([],[]),([],[]),([5],[5]),([4,6,3],[4,6]),([3,7],[3,7]),([8,7,0,1,2,3,4,5,6,7,8],[8])])
def Amn.B1:List Nat:=[0,0,2,7,0,0,32,127,255,511]
theorem Amn.tab1:rtab .any (opsOf Try.f86 1) = Amn.T1:=by kernel_rfl
theorem Amn.bits1:waitsOk Amn.T1.2 Amn.B1 = true:=by kernel_rfl
set_option maxHeartbeats 8000000 in
set_option maxRecDepth 100000 in
theorem Amn.calls (k:Nat) (a0_0:Int) (a0_1:Int) (a0_2:Int) (a0_3:ByteArray) (a0_4:Int) (a0_5:Int) (a0_6:Int) (a0_7:ByteArray)  (r1:Int) (r2:Int) (w:World) (h:Amn.f k a0_0 a0_1 a0_2 a0_3 a0_4 a0_5 a0_6 a0_7 = some (r1,r2)) :
  Calls Try.prog 86 #[.agg #[.int .i64 a0_0, .int .i64 a0_1, .int .i64 a0_2, .string a0_3, .int .i64 a0_4, .int .i64 a0_5, .int .i64 a0_6, .string a0_7], .func (.func 90) #[] #[]] w fun e w'=>e = .returned (.agg #[.int .i64 r1, .int .i64 r2]) ∧ Below w.heap.size w w':=by
 have hu117:=Try.underlying117
 have hu120:=Try.underlying120
 have hu28:=Try.underlying28
 have HB:=z_ (Below.refl w.heap.size w)
 have H:((A0y.f k a0_0 a0_1 a0_2 a0_3).bind fun t103=>((A0y.f k a0_4 a0_5 a0_6 a0_7).bind fun t104=>(some (t103,t104)))) = some (r1,r2):=h
 clear h
 replace H:=Option.bind_eq_some_iff.mp H
 obtain ⟨t103,A30,H⟩:=H
 replace H:((A0y.f k a0_4 a0_5 a0_6 a0_7).bind fun t104=>(some (t103,t104))) = some (r1,r2):=H
 have A3:=z_ A30
 clear A30
 replace H:=Option.bind_eq_some_iff.mp H
 obtain ⟨t104,A40,H⟩:=H
 replace H:(some (t103,t104)) = some (r1,r2):=H
 have A4:=z_ A40
 clear A40
 simp only [Option.some.injEq,Prod.mk.injEq] at H
 obtain ⟨rfl,rfl⟩:=H
 go_enter Try.func86,Try.ntmps86
 try go_wp2_with (first|((with_reducible refine gate_dst (N:=2) rfl ?_);refine box_event (by rfl) (N:=2) (by rfl) (cs:=#[.int .i64 a0_0, .int .i64 a0_1, .int .i64 a0_2, .string a0_3, .int .i64 a0_4, .int .i64 a0_5, .int .i64 a0_6, .string a0_7]) (t:=117) W3 ?_;intro gb101 hg w5 hbox hb;have BK101:=z_ (hbox);have GW101:=z_ ((W0:w.heap.size ≤ gb101));have GE101:=z_ ((W0:w.heap.size ≤ gb101));replace HB:=z_ (below_step W5 hb);clear hb hbox hg)|((with_reducible refine gate_dst (N:=4) rfl ?_);refine box_event (by rfl) (N:=4) (by rfl) (cs:=#[.int .i64 0, .int .i64 0]) (t:=120) W3 ?_;intro gb102 hg w6 hbox hb;have BK102:=z_ (hbox);have GW102:=z_ ((W6:w.heap.size ≤ gb102));have GE102:=z_ ((W6:w.heap.size ≤ gb102));replace HB:=z_ (below_step zp1 hb);have NB101_102:=z_ ((A4t:gb101 ≠ gb102));have NB102_101:=z_ ((A4v:gb102 ≠ gb101));replace BK101:=z_ (zk BK101.out hb);clear hb hbox hg))
 have n0_:=z_ (A7 BK101.out)
 have n1_:=z_ (A7 BK102.out)
 have n2_:=z_ (z1 HB.out)
 clear BK101
 clear BK102
 clear HB
 have BK101:=n0_
 have BK102:=n1_
 have HB:=n2_
 clear n0_ n1_ n2_
 refine start_ (n:=10) (S:=fun w'=>w'.cell? ⟨gb101,0,none⟩ = some (.int .i64 a0_0) ∧ w'.cell? ⟨gb101,1,none⟩ = some (.int .i64 a0_1) ∧ w'.cell? ⟨gb101,2,none⟩ = some (.int .i64 a0_2) ∧ w'.cell? ⟨gb101,3,none⟩ = some (.string a0_3) ∧ w'.cell? ⟨gb101,4,none⟩ = some (.int .i64 a0_4) ∧ w'.cell? ⟨gb101,5,none⟩ = some (.int .i64 a0_5) ∧ w'.cell? ⟨gb101,6,none⟩ = some (.int .i64 a0_6) ∧ w'.cell? ⟨gb101,7,none⟩ = some (.string a0_7)) (ds:=[]) #[false,false,false,false,false,false,false,false,false,false] (by kernel_rfl) rfl rfl ⟨(Oi BK101.out 0).trans rfl,(Oi BK101.out 1).trans rfl,(Oi BK101.out 2).trans rfl,(Oi BK101.out 3).trans rfl,(Oi BK101.out 4).trans rfl,(Oi BK101.out 5).trans rfl,(Oi BK101.out 6).trans rfl,(Oi BK101.out 7).trans rfl⟩ (fun hHeld=>?_);refine with_tabW Amn.tab1 Amn.bits1 (fun HT_ HW_=>?_)
 generalize w6.drew = w7 at BK101 BK102 HB hHeld ⊢
 refine pure_ (i:=0) (N:=some 5) (v:=?_) (a':=?_) #[true,false,false,false,false,false,false,false,false,false] rfl rfl (any_of HT_.out (by kernel_rfl)) (fun _ _ _ h=>h) (Or.inl ⟨by rfl,?_⟩) ?_ ?_
 rotate_left
 ·intro w'
  go_simp
  with_reducible rfl
 rotate_left
 ·simp only [Act.put,List.setIfInBounds_toArray,List.set_cons_zero,List.set_cons_succ,i64_w,i32_w]
  rfl
 refine pure_ (i:=1) (N:=some 6) (v:=?_) (a':=?_) #[true,true,false,false,false,false,false,false,false,false] rfl rfl (any_of HT_.out (by kernel_rfl)) (fun _ _ _ h=>h) (Or.inl ⟨by rfl,?_⟩) ?_ ?_
 rotate_left
 ·intro w'
  go_simp
  with_reducible rfl
 rotate_left
 ·simp only [Act.put,List.setIfInBounds_toArray,List.set_cons_zero,List.set_cons_succ,i64_w,i32_w]
  rfl
 refine pure_ (i:=4) (N:=some 9) (v:=?_) (a':=?_) #[true,true,false,false,true,false,false,false,false,false] rfl rfl (any_of HT_.out (by kernel_rfl)) (fun _ _ _ h=>h) (Or.inl ⟨by rfl,?_⟩) ?_ ?_
 rotate_left
 ·intro w'
  go_simp
  with_reducible rfl
 rotate_left
 ·simp only [Act.put,List.setIfInBounds_toArray,List.set_cons_zero,List.set_cons_succ,i64_w,i32_w]
  rfl
 refine pure_ (i:=5) (N:=some 10) (v:=?_) (a':=?_) #[true,true,false,false,true,true,false,false,false,false] rfl rfl (any_of HT_.out (by kernel_rfl)) (fun _ _ _ h=>h) (Or.inl ⟨by rfl,?_⟩) ?_ ?_
 rotate_left
 ·intro w'
  go_simp
  with_reducible rfl
 rotate_left
 ·simp only [Act.put,List.setIfInBounds_toArray,List.set_cons_zero,List.set_cons_succ,i64_w,i32_w]
  rfl
 refine take_ (i:=2) (N:=some 7) (v:=?_) (a':=?_) #[true,true,true,false,true,true,false,false,false,false] rfl rfl (take_ofW HT_.out HW_.out (by kernel_rfl)) (fun _ _ _ h=>h) (Or.inl ⟨by rfl,?_⟩) hHeld ?_ ?_
 rotate_left
 ·rintro w' ⟨s0,s1,s2,s3,s4,s5,s6,s7⟩
  go_simp
  with_reducible rfl
 rotate_left
 ·simp only [Act.put,List.setIfInBounds_toArray,List.set_cons_zero,List.set_cons_succ,i64_w,i32_w]
  rfl
 refine take_ (i:=6) (N:=some 11) (v:=?_) (a':=?_) #[true,true,true,false,true,true,true,false,false,false] rfl rfl (take_ofW HT_.out HW_.out (by kernel_rfl)) (fun _ _ _ h=>h) (Or.inl ⟨by rfl,?_⟩) hHeld ?_ ?_
 rotate_left
 ·rintro w' ⟨s0,s1,s2,s3,s4,s5,s6,s7⟩
  go_simp
  with_reducible rfl
 rotate_left
 ·simp only [Act.put,List.setIfInBounds_toArray,List.set_cons_zero,List.set_cons_succ,i64_w,i32_w]
  rfl
 refine one_ (i:=3) (N:=some 8) #[true,true,true,true,true,true,true,false,false,false] rfl rfl (one_of HT_.out (by kernel_rfl)) (by decide) (fun K hK=>?_)
 refine goesd_ Try.func90 (by kernel_rfl) rfl #[.agg #[.int .i64 a0_0, .int .i64 a0_1, .int .i64 a0_2, .string a0_3]] (by rfl) rfl rfl rfl W4 ?_
 with_reducible refine (A0y.calls k a0_0 a0_1 a0_2 a0_3 t103 _ A3.out).mono ?_
 rintro e w8 ⟨rfl,hb⟩
 refine ⟨_,rfl,?_⟩
 have n0_:=z_ (zk BK101.out hb)
 have n1_:=z_ (zk BK102.out hb)
 have n2_:=z_ (below_step zp5 hb)
 clear BK101
 clear BK102
 clear HB
 have BK101:=n0_
 have BK102:=n1_
 have HB:=n2_
 clear n0_ n1_ n2_
 (try clear hb)
 (try clear hb2)
 (try clear hk)
 (try clear hi)
 refine hK.out _ _ ⟨(Oi BK101.out 0).trans rfl,(Oi BK101.out 1).trans rfl,(Oi BK101.out 2).trans rfl,(Oi BK101.out 3).trans rfl,(Oi BK101.out 4).trans rfl,(Oi BK101.out 5).trans rfl,(Oi BK101.out 6).trans rfl,(Oi BK101.out 7).trans rfl⟩ (fun hHeld=>?_)
 clear hK K
 refine norm_ (a':=?_) ?_ ?_
 rotate_left
 ·show Act.put _ (some 8) _ = _
  simp only [Act.put,List.setIfInBounds_toArray,List.set_cons_zero,List.set_cons_succ,i64_w,i32_w]
  rfl
 refine one_ (i:=7) (N:=some 12) #[true,true,true,true,true,true,true,true,false,false] rfl rfl (one_of HT_.out (by kernel_rfl)) (by decide) (fun K hK=>?_)
 refine goesd_ Try.func90 (by kernel_rfl) rfl #[.agg #[.int .i64 a0_4, .int .i64 a0_5, .int .i64 a0_6, .string a0_7]] (by rfl) rfl rfl rfl W4 ?_
 with_reducible refine (A0y.calls k a0_4 a0_5 a0_6 a0_7 t104 _ A4.out).mono ?_
 rintro e w9 ⟨rfl,hb⟩
 refine ⟨_,rfl,?_⟩
 have n0_:=z_ (zk BK101.out hb)
 have n1_:=z_ (zk BK102.out hb)
 have n2_:=z_ (below_step zp5 hb)
 clear BK101
 clear BK102
 clear HB
 have BK101:=n0_
 have BK102:=n1_
 have HB:=n2_
 clear n0_ n1_ n2_
 (try clear hb)
 (try clear hb2)
 (try clear hk)
 (try clear hi)
 refine hK.out _ _ ⟨(Oi BK101.out 0).trans rfl,(Oi BK101.out 1).trans rfl,(Oi BK101.out 2).trans rfl,(Oi BK101.out 3).trans rfl,(Oi BK101.out 4).trans rfl,(Oi BK101.out 5).trans rfl,(Oi BK101.out 6).trans rfl,(Oi BK101.out 7).trans rfl⟩ (fun hHeld=>?_)
 clear hK K
 refine norm_ (a':=?_) ?_ ?_
 rotate_left
 ·show Act.put _ (some 12) _ = _
  simp only [Act.put,List.setIfInBounds_toArray,List.set_cons_zero,List.set_cons_succ,i64_w,i32_w]
  rfl
 refine pure_ (i:=8) (N:=some 13) (v:=?_) (a':=?_) #[true,true,true,true,true,true,true,true,true,false] rfl rfl (any_of HT_.out (by kernel_rfl)) (fun _ _ _ h=>h) (Or.inl ⟨by rfl,?_⟩) ?_ ?_
 rotate_left
 ·intro w'
  go_simp
  with_reducible rfl
 rotate_left
 ·simp only [Act.put,List.setIfInBounds_toArray,List.set_cons_zero,List.set_cons_succ,i64_w,i32_w]
  rfl
 refine one_ (i:=9) (N:=none) #[true,true,true,true,true,true,true,true,true,true] rfl rfl (one_of HT_.out (by kernel_rfl)) (by decide) (fun K hK=>?_)
 have hs10:w9.cell? ⟨gb102,0,none⟩ = some (.int .i64 0):=(Oi BK102.out 0).trans rfl
 have hfs10:=S3 BK102.out 0
 have hns10_0:=NB101_102.out
 have hms10_0:=NB102_101.out
 have hs11:w9.cell? ⟨gb102,1,none⟩ = some (.int .i64 0):=(Oi BK102.out 1).trans rfl
 have hfs11:=S3 BK102.out 1
 have hns11_0:=NB101_102.out
 have hms11_0:=NB102_101.out
 refine skip_ (w1:=?_) (by rfl) rfl ?_ ?_
 rotate_left
 ·go_simp
  rfl
 refine hK.out _ _ ⟨((cell_far (p:=⟨gb102,_,none⟩) NB101_102.out _).trans (((cell_far (p:=⟨gb102,_,none⟩) NB101_102.out _).trans (hHeld.1)))),((cell_far (p:=⟨gb102,_,none⟩) NB101_102.out _).trans (((cell_far (p:=⟨gb102,_,none⟩) NB101_102.out _).trans (hHeld.2.1)))),((cell_far (p:=⟨gb102,_,none⟩) NB101_102.out _).trans (((cell_far (p:=⟨gb102,_,none⟩) NB101_102.out _).trans (hHeld.2.2.1)))),((cell_far (p:=⟨gb102,_,none⟩) NB101_102.out _).trans (((cell_far (p:=⟨gb102,_,none⟩) NB101_102.out _).trans (hHeld.2.2.2.1)))),((cell_far (p:=⟨gb102,_,none⟩) NB101_102.out _).trans (((cell_far (p:=⟨gb102,_,none⟩) NB101_102.out _).trans (hHeld.2.2.2.2.1)))),((cell_far (p:=⟨gb102,_,none⟩) NB101_102.out _).trans (((cell_far (p:=⟨gb102,_,none⟩) NB101_102.out _).trans (hHeld.2.2.2.2.2.1)))),((cell_far (p:=⟨gb102,_,none⟩) NB101_102.out _).trans (((cell_far (p:=⟨gb102,_,none⟩) NB101_102.out _).trans (hHeld.2.2.2.2.2.2.1)))),((cell_far (p:=⟨gb102,_,none⟩) NB101_102.out _).trans (((cell_far (p:=⟨gb102,_,none⟩) NB101_102.out _).trans (hHeld.2.2.2.2.2.2.2))))⟩ (fun hHeld=>?_)
 clear hK K
 refine done_ (done_of HT_.out (by kernel_rfl)) ?_
 try go_wp2
 refine bodyPost_ret (results_cell_row rfl _ _ gb102 120 #[.int .i64 t103, .int .i64 t104] (0,0) _ rfl A4u Try.underlying120 rfl (by kernel_rfl)) rfl ?_
 exact ⟨by first|rfl|(simp [errW_none,errW_some] <;> rfl)|(simp [*,errW_none,errW_some] <;> rfl),by repeat first|(with_reducible first|exact HB.out|apply zA|apply zN|apply z1|refine zS ?_ GE101.out|refine zS ?_ GE102.out)|exact HB.out⟩
end Go.Proofs.Ytglffgneikoeaaa.M
namespace Go.Proofs.Ytglffgneikoeaaa.M
open Go.RowKit Go.Proofs.YtglffgneikoeaaaW.PrintWords Go.Proofs.YtglffgneikoeaaaW.PrintLast Go.Proofs.YtglffgneikoeaaaW.PrintMore
attribute [local go_sem] max2_int min2_int max_two min_two max_three min_three max_four min_four
attribute [local go_sem high] own_gtr own_leq own_geq own_cell_set Option.map_some
set_option linter.unusedVariables false
set_option linter.unusedSimpArgs false
def Aem.j0:Nat → Bool → Int → Int → Int → ByteArray → Int → Int → Int → ByteArray → Int → Int → Int → ByteArray → Int → Int → Int → ByteArray → Option (Int)
 | 0,_,_,_,_,_,_,_,_,_,_,_,_,_,_,_,_,_=>none
 | k + 1,x20,x106000,x106001,x106002,x106003,x107000,x107001,x107002,x107003,x108000,x108001,x108002,x108003,x108004,x108005,x108006,x108007=>if x20 = true then ((Amr.f x108000 x108001 x108002 x108003 x108004 x108005 x108006 x108007).bind fun bt108=>((Amk.f bt108.1 bt108.2).bind fun t110=>(some t110))) else (if x106000 = 3 then ((Amw.f k x108000 x108001 x108002 x108003 x108004 x108005 x108006 x108007).bind fun bt111=>((Amk.f bt111.1 bt111.2).bind fun t113=>((Amn.f k x108000 x108001 x108002 x108003 x108004 x108005 x108006 x108007).bind fun bt114=>((Amk.f bt114.1 bt114.2).bind fun t116=>((Amf.f k (([t113,t116]:List Int))).bind fun t120=>(some t120)))))) else ((strings_Compare.f x106003 x107003).bind fun t121=>(some t121)))
def Aem.f (k:Nat) (a0_0:Int) (a0_1:Int) (a0_2:Int) (a0_3:ByteArray) (a1_0:Int) (a1_1:Int) (a1_2:Int) (a1_3:ByteArray):Option (Int):=if a0_0 = a1_0 then (if a0_0 = 1 then (Aem.j0 k true a0_0 a0_1 a0_2 a0_3 a1_0 a1_1 a1_2 a1_3 a0_0 a0_1 a0_2 a0_3 a1_0 a1_1 a1_2 a1_3) else (Aem.j0 k (a0_0 == 2) a0_0 a0_1 a0_2 a0_3 a1_0 a1_1 a1_2 a1_3 a0_0 a0_1 a0_2 a0_3 a1_0 a1_1 a1_2 a1_3)) else ((cmp_Compare_int.f a0_0 a1_0).bind fun t122=>(some t122))
def Aem.T7:Bool × List (List Nat × List Nat):=(true,[([],[]),([0],[0]),([1,1],[1]),([],[]),([3,2],[3]),([4,4],[4]),([2,5],[2,5]),([6,5],[6]),([7,7,0,1,2,3,4,5,6,7],[7])])
def Aem.B7:List Nat:=[0,1,3,0,15,31,63,127,255]
theorem Aem.tab7:rtab .any (opsOf Try.f79 7) = Aem.T7:=by kernel_rfl
theorem Aem.bits7:waitsOk Aem.T7.2 Aem.B7 = true:=by kernel_rfl
set_option maxHeartbeats 8000000 in
set_option maxRecDepth 100000 in
theorem Aem.calls (k:Nat) (a0_0:Int) (a0_1:Int) (a0_2:Int) (a0_3:ByteArray) (a1_0:Int) (a1_1:Int) (a1_2:Int) (a1_3:ByteArray) (r:Int) (w:World) (h:Aem.f k a0_0 a0_1 a0_2 a0_3 a1_0 a1_1 a1_2 a1_3 = some r) :
  Calls Try.prog 79 #[.agg #[.int .i64 a0_0, .int .i64 a0_1, .int .i64 a0_2, .string a0_3], .agg #[.int .i64 a1_0, .int .i64 a1_1, .int .i64 a1_2, .string a1_3]] w fun e w'=>e = .returned (.int .i64 r) ∧ Below w.heap.size w w':=by
 have hu28:=Try.underlying28
 have hu117:=Try.underlying117
 have HB:=z_ (Below.refl w.heap.size w)
 have H:(if a0_0 = a1_0 then (if a0_0 = 1 then (Aem.j0 k true a0_0 a0_1 a0_2 a0_3 a1_0 a1_1 a1_2 a1_3 a0_0 a0_1 a0_2 a0_3 a1_0 a1_1 a1_2 a1_3) else (Aem.j0 k (a0_0 == 2) a0_0 a0_1 a0_2 a0_3 a1_0 a1_1 a1_2 a1_3 a0_0 a0_1 a0_2 a0_3 a1_0 a1_1 a1_2 a1_3)) else ((cmp_Compare_int.f a0_0 a1_0).bind fun t122=>(some t122))) = some r:=h
 clear h
 by_cases c3:a0_0 = a1_0
 ·rw [if_pos c3] at H
  have c3b0:(a0_0 == a1_0) = true:=beq_iff_eq.mpr c3
  have c3b1:(a0_0 != a1_0) = false:=bne_eq_false_iff_eq.mpr c3
  clear c3
  have HC4:=z_ H
  clear H
  go_enter Try.func79,Try.ntmps79
  go_upto_region 4 with (first|((with_reducible refine gate_dst (N:=2) rfl ?_);refine box_event (by rfl) (N:=2) (by rfl) (cs:=#[.int .i64 a0_0, .int .i64 a0_1, .int .i64 a0_2, .string a0_3]) (t:=28) W3 ?_;intro gb105 hg w5 hbox hb;have BK105:=z_ (hbox);have GW105:=z_ ((W0:w.heap.size ≤ gb105));have GE105:=z_ ((W0:w.heap.size ≤ gb105));replace HB:=z_ (below_step W5 hb);clear hb hbox hg)|((with_reducible refine gate_dst (N:=3) rfl ?_);refine box_event (by rfl) (N:=3) (by rfl) (cs:=#[.int .i64 a1_0, .int .i64 a1_1, .int .i64 a1_2, .string a1_3]) (t:=28) W3 ?_;intro gb106 hg w6 hbox hb;have BK106:=z_ (hbox);have GW106:=z_ ((by rw [hg];exact (zBs A2r):w.heap.size ≤ gb106));have GE106:=z_ ((by rw [hg];exact (zBs A2r):w.heap.size ≤ gb106));replace HB:=z_ (below_step A2r hb);have NB105_106:=z_ ((A3y:gb105 ≠ gb106));have NB106_105:=z_ ((A3v:gb106 ≠ gb105));replace BK105:=z_ (zk BK105.out hb);clear hb hbox hg;have hnb7:=NB105_106.out;have hnc7:=NB106_105.out;obtain ⟨_,_,_,_,_,_,_,_⟩:=Rr BK105.out;obtain ⟨_,_,_,_,_,_,_,_⟩:=Rr BK106.out)|((with_reducible refine gate_dst (N:=5) rfl ?_);refine box_event (by rfl) (N:=5) (by rfl) (cs:=#[.int .i64 0, .int .i64 0, .int .i64 0, .string (⟨#[]⟩:ByteArray), .int .i64 0, .int .i64 0, .int .i64 0, .string (⟨#[]⟩:ByteArray)]) (t:=117) W3 ?_;intro gb107 hg w10 hbox hb;have BK107:=z_ (hbox);have GW107:=z_ ((by rw [hg];exact (zBs A2q):w.heap.size ≤ gb107));have GE107:=z_ ((by rw [hg];exact (zBs A2q):w.heap.size ≤ gb107));replace HB:=z_ (below_step A2q hb);have NB105_107:=z_ ((A3y:gb105 ≠ gb107));have NB107_105:=z_ ((A3v:gb107 ≠ gb105));replace BK105:=z_ (zk BK105.out hb);have NB106_107:=z_ ((A6x:gb106 ≠ gb107));have NB107_106:=z_ ((A6k:gb107 ≠ gb106));replace BK106:=z_ (zk BK106.out hb);clear hb hbox hg;have hnb11:=NB107_105.out;have hnc11:=NB105_107.out;have hnb12:=NB107_106.out;have hnc12:=NB106_107.out;obtain ⟨_,_,_,_,_,_,_,_,_,_,_,_,_,_,_,_⟩:=zc8 BK107.out;obtain ⟨_,_,_,_,_,_,_,_⟩:=Rr BK105.out;obtain ⟨_,_,_,_,_,_,_,_⟩:=Rr BK106.out))
  (try simp only [Act.put,List.setIfInBounds_toArray,List.set_cons_zero,List.set_cons_succ])
  go_cut [20] (fun v20 wc=>∃ (kq:Nat) (x20_3:Bool),v20 = .bool x20_3 ∧ Aside0 (Aem.j0 kq x20_3 a0_0 a0_1 a0_2 a0_3 a1_0 a1_1 a1_2 a1_3 a0_0 a0_1 a0_2 a0_3 a1_0 a1_1 a1_2 a1_3 = some r) ∧ Aside0 (kq ≤ k) ∧ Aside0 (wc.heap[gb105]? = some (.cells #[.int .i64 a0_0, .int .i64 a0_1, .int .i64 a0_2, .string a0_3] 28 (0,0))) ∧ Aside0 (wc.heap[gb106]? = some (.cells #[.int .i64 a1_0, .int .i64 a1_1, .int .i64 a1_2, .string a1_3] 28 (0,0))) ∧ Aside0 (wc.heap[gb107]? = some (.cells #[.int .i64 a0_0, .int .i64 a0_1, .int .i64 a0_2, .string a0_3, .int .i64 a1_0, .int .i64 a1_1, .int .i64 a1_2, .string a1_3] 117 (0,0))) ∧ Aside0 (Below w.heap.size w wc))
  case first =>
   have H:=HC4.out
   clear HC4
   by_cases c16:a0_0 = 1
   ·rw [if_pos c16] at H
    have c16b0:(a0_0 == 1) = true:=beq_iff_eq.mpr c16
    have c16b1:(a0_0 != 1) = false:=bne_eq_false_iff_eq.mpr c16
    clear c16
    (first|rw [c16b0]|(simp only [i64_w,i32_w];rw [c16b0])|skip)
    have H':=z_ H
    clear H
    have hnb17:=NB105_106.out
    have hnc17:=NB106_105.out
    have hnb18:=NB105_107.out
    have hnc18:=NB107_105.out
    obtain ⟨_,_,_,_,_,_,_,_⟩:=Rr BK105.out
    go_wp2
    go_meet
    case rel=>exact ⟨_,(true),Adz,H',⟨by first|omega|exact Nat.le_refl _⟩,⟨by (with_reducible repeat first|apply Jx|apply A7|apply K0);refine S0 ?_ NB105_107.out _;(with_reducible repeat first|apply Jx|apply A7|apply K0);refine S0 ?_ NB105_107.out _;(with_reducible repeat first|apply Jx|apply A7|apply K0);refine S0 ?_ NB105_107.out _;(with_reducible repeat first|apply Jx|apply A7|apply K0);refine S0 ?_ NB105_107.out _;(with_reducible repeat first|apply Jx|apply A7|apply K0);refine S0 ?_ NB105_107.out _;(with_reducible repeat first|apply Jx|apply A7|apply K0);refine S0 ?_ NB105_107.out _;(with_reducible repeat first|apply Jx|apply A7|apply K0);refine S0 ?_ NB105_107.out _;(with_reducible repeat first|apply Jx|apply A7|apply K0);refine S0 ?_ NB105_107.out _;(with_reducible repeat first|apply Jx|apply A7|apply K0);exact BK105.out⟩,⟨by (with_reducible repeat first|apply Jx|apply A7|apply K0);refine S0 ?_ NB106_107.out _;(with_reducible repeat first|apply Jx|apply A7|apply K0);refine S0 ?_ NB106_107.out _;(with_reducible repeat first|apply Jx|apply A7|apply K0);refine S0 ?_ NB106_107.out _;(with_reducible repeat first|apply Jx|apply A7|apply K0);refine S0 ?_ NB106_107.out _;(with_reducible repeat first|apply Jx|apply A7|apply K0);refine S0 ?_ NB106_107.out _;(with_reducible repeat first|apply Jx|apply A7|apply K0);refine S0 ?_ NB106_107.out _;(with_reducible repeat first|apply Jx|apply A7|apply K0);refine S0 ?_ NB106_107.out _;(with_reducible repeat first|apply Jx|apply A7|apply K0);refine S0 ?_ NB106_107.out _;(with_reducible repeat first|apply Jx|apply A7|apply K0);exact BK106.out⟩,⟨by (with_reducible repeat first|apply Jx|apply A7|apply K0);refine Tt (cs:=#[.int .i64 a0_0, .int .i64 a0_1, .int .i64 a0_2, .string a0_3, .int .i64 a1_0, .int .i64 a1_1, .int .i64 a1_2, .string (⟨#[]⟩:ByteArray)]) ?_ 7 _ rfl;(with_reducible repeat first|apply Jx|apply A7|apply K0);refine Tt (cs:=#[.int .i64 a0_0, .int .i64 a0_1, .int .i64 a0_2, .string a0_3, .int .i64 a1_0, .int .i64 a1_1, .int .i64 0, .string (⟨#[]⟩:ByteArray)]) ?_ 6 _ rfl;(with_reducible repeat first|apply Jx|apply A7|apply K0);refine Tt (cs:=#[.int .i64 a0_0, .int .i64 a0_1, .int .i64 a0_2, .string a0_3, .int .i64 a1_0, .int .i64 0, .int .i64 0, .string (⟨#[]⟩:ByteArray)]) ?_ 5 _ rfl;(with_reducible repeat first|apply Jx|apply A7|apply K0);refine Tt (cs:=#[.int .i64 a0_0, .int .i64 a0_1, .int .i64 a0_2, .string a0_3, .int .i64 0, .int .i64 0, .int .i64 0, .string (⟨#[]⟩:ByteArray)]) ?_ 4 _ rfl;(with_reducible repeat first|apply Jx|apply A7|apply K0);refine Tt (cs:=#[.int .i64 a0_0, .int .i64 a0_1, .int .i64 a0_2, .string (⟨#[]⟩:ByteArray), .int .i64 0, .int .i64 0, .int .i64 0, .string (⟨#[]⟩:ByteArray)]) ?_ 3 _ rfl;(with_reducible repeat first|apply Jx|apply A7|apply K0);refine Tt (cs:=#[.int .i64 a0_0, .int .i64 a0_1, .int .i64 0, .string (⟨#[]⟩:ByteArray), .int .i64 0, .int .i64 0, .int .i64 0, .string (⟨#[]⟩:ByteArray)]) ?_ 2 _ rfl;(with_reducible repeat first|apply Jx|apply A7|apply K0);refine Tt (cs:=#[.int .i64 a0_0, .int .i64 0, .int .i64 0, .string (⟨#[]⟩:ByteArray), .int .i64 0, .int .i64 0, .int .i64 0, .string (⟨#[]⟩:ByteArray)]) ?_ 1 _ rfl;(with_reducible repeat first|apply Jx|apply A7|apply K0);refine Tt (cs:=#[.int .i64 0, .int .i64 0, .int .i64 0, .string (⟨#[]⟩:ByteArray), .int .i64 0, .int .i64 0, .int .i64 0, .string (⟨#[]⟩:ByteArray)]) ?_ 0 _ rfl;(with_reducible repeat first|apply Jx|apply A7|apply K0);exact BK107.out⟩,⟨by repeat first|(with_reducible first|exact HB.out|apply zA|apply zN|apply z1|refine zS ?_ GE105.out|refine zS ?_ GE106.out|refine zS ?_ GE107.out)|exact HB.out⟩⟩
   ·rw [if_neg c16] at H
    have c16b0:(a0_0 == 1) = false:=beq_eq_false_iff_ne.mpr c16
    have c16b1:(a0_0 != 1) = true:=bne_iff_ne.mpr c16
    (first|rw [c16b0]|(simp only [i64_w,i32_w];rw [c16b0])|skip)
    have H':=z_ H
    clear H
    have hnb20:=NB105_106.out
    have hnc20:=NB106_105.out
    have hnb21:=NB105_107.out
    have hnc21:=NB107_105.out
    obtain ⟨_,_,_,_,_,_,_,_⟩:=Rr BK105.out
    go_wp2
    go_meet
    case rel=>exact ⟨_,((a0_0 == 2)),Adz,H',⟨by first|omega|exact Nat.le_refl _⟩,⟨by (with_reducible repeat first|apply Jx|apply A7|apply K0);refine S0 ?_ NB105_107.out _;(with_reducible repeat first|apply Jx|apply A7|apply K0);refine S0 ?_ NB105_107.out _;(with_reducible repeat first|apply Jx|apply A7|apply K0);refine S0 ?_ NB105_107.out _;(with_reducible repeat first|apply Jx|apply A7|apply K0);refine S0 ?_ NB105_107.out _;(with_reducible repeat first|apply Jx|apply A7|apply K0);refine S0 ?_ NB105_107.out _;(with_reducible repeat first|apply Jx|apply A7|apply K0);refine S0 ?_ NB105_107.out _;(with_reducible repeat first|apply Jx|apply A7|apply K0);refine S0 ?_ NB105_107.out _;(with_reducible repeat first|apply Jx|apply A7|apply K0);refine S0 ?_ NB105_107.out _;(with_reducible repeat first|apply Jx|apply A7|apply K0);exact BK105.out⟩,⟨by (with_reducible repeat first|apply Jx|apply A7|apply K0);refine S0 ?_ NB106_107.out _;(with_reducible repeat first|apply Jx|apply A7|apply K0);refine S0 ?_ NB106_107.out _;(with_reducible repeat first|apply Jx|apply A7|apply K0);refine S0 ?_ NB106_107.out _;(with_reducible repeat first|apply Jx|apply A7|apply K0);refine S0 ?_ NB106_107.out _;(with_reducible repeat first|apply Jx|apply A7|apply K0);refine S0 ?_ NB106_107.out _;(with_reducible repeat first|apply Jx|apply A7|apply K0);refine S0 ?_ NB106_107.out _;(with_reducible repeat first|apply Jx|apply A7|apply K0);refine S0 ?_ NB106_107.out _;(with_reducible repeat first|apply Jx|apply A7|apply K0);refine S0 ?_ NB106_107.out _;(with_reducible repeat first|apply Jx|apply A7|apply K0);exact BK106.out⟩,⟨by (with_reducible repeat first|apply Jx|apply A7|apply K0);refine Tt (cs:=#[.int .i64 a0_0, .int .i64 a0_1, .int .i64 a0_2, .string a0_3, .int .i64 a1_0, .int .i64 a1_1, .int .i64 a1_2, .string (⟨#[]⟩:ByteArray)]) ?_ 7 _ rfl;(with_reducible repeat first|apply Jx|apply A7|apply K0);refine Tt (cs:=#[.int .i64 a0_0, .int .i64 a0_1, .int .i64 a0_2, .string a0_3, .int .i64 a1_0, .int .i64 a1_1, .int .i64 0, .string (⟨#[]⟩:ByteArray)]) ?_ 6 _ rfl;(with_reducible repeat first|apply Jx|apply A7|apply K0);refine Tt (cs:=#[.int .i64 a0_0, .int .i64 a0_1, .int .i64 a0_2, .string a0_3, .int .i64 a1_0, .int .i64 0, .int .i64 0, .string (⟨#[]⟩:ByteArray)]) ?_ 5 _ rfl;(with_reducible repeat first|apply Jx|apply A7|apply K0);refine Tt (cs:=#[.int .i64 a0_0, .int .i64 a0_1, .int .i64 a0_2, .string a0_3, .int .i64 0, .int .i64 0, .int .i64 0, .string (⟨#[]⟩:ByteArray)]) ?_ 4 _ rfl;(with_reducible repeat first|apply Jx|apply A7|apply K0);refine Tt (cs:=#[.int .i64 a0_0, .int .i64 a0_1, .int .i64 a0_2, .string (⟨#[]⟩:ByteArray), .int .i64 0, .int .i64 0, .int .i64 0, .string (⟨#[]⟩:ByteArray)]) ?_ 3 _ rfl;(with_reducible repeat first|apply Jx|apply A7|apply K0);refine Tt (cs:=#[.int .i64 a0_0, .int .i64 a0_1, .int .i64 0, .string (⟨#[]⟩:ByteArray), .int .i64 0, .int .i64 0, .int .i64 0, .string (⟨#[]⟩:ByteArray)]) ?_ 2 _ rfl;(with_reducible repeat first|apply Jx|apply A7|apply K0);refine Tt (cs:=#[.int .i64 a0_0, .int .i64 0, .int .i64 0, .string (⟨#[]⟩:ByteArray), .int .i64 0, .int .i64 0, .int .i64 0, .string (⟨#[]⟩:ByteArray)]) ?_ 1 _ rfl;(with_reducible repeat first|apply Jx|apply A7|apply K0);refine Tt (cs:=#[.int .i64 0, .int .i64 0, .int .i64 0, .string (⟨#[]⟩:ByteArray), .int .i64 0, .int .i64 0, .int .i64 0, .string (⟨#[]⟩:ByteArray)]) ?_ 0 _ rfl;(with_reducible repeat first|apply Jx|apply A7|apply K0);exact BK107.out⟩,⟨by repeat first|(with_reducible first|exact HB.out|apply zA|apply zN|apply z1|refine zS ?_ GE105.out|refine zS ?_ GE106.out|refine zS ?_ GE107.out)|exact HB.out⟩⟩
  case rest =>
   clear HC4
   try clear c1
   try clear c2
   try clear p2
   try clear c3
   try clear c3b0
   try clear c3b1
   try clear c7
   try clear c11
   try clear c12
   try clear c16
   try clear c16b0
   try clear c16b1
   try clear c17
   try clear c18
   try clear c20
   try clear c21
   try clear hcz13_0
   try clear hcz13_1
   try clear hcz13_2
   try clear hcz13_3
   try clear hcz13_4
   try clear hcz13_5
   try clear hcz13_6
   try clear hcz13_7
   try clear hcz14_0
   try clear hcz14_1
   try clear hcz14_2
   try clear hcz14_3
   try clear hcz15_0
   try clear hcz15_1
   try clear hcz15_2
   try clear hcz15_3
   try clear hcz19_0
   try clear hcz19_1
   try clear hcz19_2
   try clear hcz19_3
   try clear hcz22_0
   try clear hcz22_1
   try clear hcz22_2
   try clear hcz22_3
   try clear hcz8_0
   try clear hcz8_1
   try clear hcz8_2
   try clear hcz8_3
   try clear hcz9_0
   try clear hcz9_1
   try clear hcz9_2
   try clear hcz9_3
   try clear hfz13_0
   try clear hfz13_1
   try clear hfz13_2
   try clear hfz13_3
   try clear hfz13_4
   try clear hfz13_5
   try clear hfz13_6
   try clear hfz13_7
   try clear hfz14_0
   try clear hfz14_1
   try clear hfz14_2
   try clear hfz14_3
   try clear hfz15_0
   try clear hfz15_1
   try clear hfz15_2
   try clear hfz15_3
   try clear hfz19_0
   try clear hfz19_1
   try clear hfz19_2
   try clear hfz19_3
   try clear hfz22_0
   try clear hfz22_1
   try clear hfz22_2
   try clear hfz22_3
   try clear hfz8_0
   try clear hfz8_1
   try clear hfz8_2
   try clear hfz8_3
   try clear hfz9_0
   try clear hfz9_1
   try clear hfz9_2
   try clear hfz9_3
   obtain ⟨kq,x20_3,rfl,HA,HJ3,BK105,BK106,BK107,HB⟩:=hcut
   cases kq with
   | zero=>exact absurd HA.out (by simp [Aem.j0])
   | succ kj3 =>
    have H:=HA.out
    clear HA
    simp only [Aem.j0] at H
    by_cases c23:x20_3 = true
    ·subst c23
     have H1:((Amr.f a0_0 a0_1 a0_2 a0_3 a1_0 a1_1 a1_2 a1_3).bind fun bt108=>((Amk.f bt108.1 bt108.2).bind fun t110=>(some t110))) = some r:=by rw [if_pos rfl] at H;exact H
     clear H
     have H:=H1
     clear H1
     replace H:=Option.bind_eq_some_iff.mp H
     obtain ⟨⟨t108,t109⟩,A240,H⟩:=H
     replace H:((Amk.f t108 t109).bind fun t110=>(some t110)) = some r:=H
     have A24:=z_ A240
     clear A240
     replace H:=Option.bind_eq_some_iff.mp H
     obtain ⟨t110,A250,H⟩:=H
     replace H:(some t110) = some r:=H
     have A25:=z_ A250
     clear A250
     obtain rfl:=Option.some.inj H
     have hnb26:=NB107_105.out
     have hnc26:=NB105_107.out
     have hnb27:=NB107_106.out
     have hnc27:=NB106_107.out
     obtain ⟨_,_,_,_,_,_,_,_,_,_,_,_,_,_,_,_⟩:=zc8 BK107.out
     go_wp2_with (first|((with_reducible refine gate_callee (f:=86) rfl ?_);refine goesL_ (some 30) rfl rfl Try.func86 (by kernel_rfl) rfl #[.agg #[.int .i64 a0_0, .int .i64 a0_1, .int .i64 a0_2, .string a0_3, .int .i64 a1_0, .int .i64 a1_1, .int .i64 a1_2, .string a1_3], .func (.func 87) #[] #[]] rfl W4 ?_;(with_reducible refine (Amr.calls a0_0 a0_1 a0_2 a0_3 a1_0 a1_1 a1_2 a1_3  t108 t109 _ A24.out).mono ?_);rintro e w29 ⟨rfl,hb⟩;refine ⟨_,rfl,?_⟩;replace BK105:=z_ (zk BK105.out hb);replace BK106:=z_ (zk BK106.out hb);replace BK107:=z_ (zk BK107.out hb);replace HB:=z_ (below_step A1x hb);(try clear hb);(try clear hb2);(try clear hk);(try clear hi))|((with_reducible refine gate_callee (f:=85) rfl ?_);refine goesL_ (some 31) rfl rfl Try.func85 (by kernel_rfl) rfl #[.agg #[.int .i64 t108, .int .i64 t109]] rfl W4 ?_;(with_reducible refine (Amk.calls t108 t109 t110 _ A25.out).mono ?_);rintro e w30 ⟨rfl,hb⟩;refine ⟨_,rfl,?_⟩;replace BK105:=z_ (zk BK105.out hb);replace BK106:=z_ (zk BK106.out hb);replace BK107:=z_ (zk BK107.out hb);replace HB:=z_ (below_step A1x hb);(try clear hb);(try clear hb2);(try clear hk);(try clear hi)))
     go_ret
     exact ⟨by first|rfl|(simp [errW_none,errW_some] <;> rfl)|(simp [*,errW_none,errW_some] <;> rfl),by repeat first|(with_reducible first|exact HB.out|apply zA|apply zN|apply z1|refine zS ?_ GE105.out|refine zS ?_ GE106.out|refine zS ?_ GE107.out)|exact HB.out⟩
    ·replace c23:=Bool.eq_false_iff.mpr c23
     subst c23
     have H1:(if a0_0 = 3 then ((Amw.f kj3 a0_0 a0_1 a0_2 a0_3 a1_0 a1_1 a1_2 a1_3).bind fun bt111=>((Amk.f bt111.1 bt111.2).bind fun t113=>((Amn.f kj3 a0_0 a0_1 a0_2 a0_3 a1_0 a1_1 a1_2 a1_3).bind fun bt114=>((Amk.f bt114.1 bt114.2).bind fun t116=>((Amf.f kj3 (([t113,t116]:List Int))).bind fun t120=>(some t120)))))) else ((strings_Compare.f a0_3 a1_3).bind fun t121=>(some t121))) = some r:=by rw [if_neg (show ¬ (false = true) by decide)] at H;exact H
     clear H
     have H:=H1
     clear H1
     by_cases c31:a0_0 = 3
     ·rw [if_pos c31] at H
      have c31b0:(a0_0 == 3) = true:=beq_iff_eq.mpr c31
      have c31b1:(a0_0 != 3) = false:=bne_eq_false_iff_eq.mpr c31
      clear c31
      replace H:=Option.bind_eq_some_iff.mp H
      obtain ⟨⟨t111,t112⟩,A320,H⟩:=H
      replace H:((Amk.f t111 t112).bind fun t113=>((Amn.f kj3 a0_0 a0_1 a0_2 a0_3 a1_0 a1_1 a1_2 a1_3).bind fun bt114=>((Amk.f bt114.1 bt114.2).bind fun t116=>((Amf.f kj3 (([t113,t116]:List Int))).bind fun t120=>(some t120))))) = some r:=H
      have A32:=z_ A320
      clear A320
      replace H:=Option.bind_eq_some_iff.mp H
      obtain ⟨t113,A330,H⟩:=H
      replace H:((Amn.f kj3 a0_0 a0_1 a0_2 a0_3 a1_0 a1_1 a1_2 a1_3).bind fun bt114=>((Amk.f bt114.1 bt114.2).bind fun t116=>((Amf.f kj3 (([t113,t116]:List Int))).bind fun t120=>(some t120)))) = some r:=H
      have A33:=z_ A330
      clear A330
      replace H:=Option.bind_eq_some_iff.mp H
      obtain ⟨⟨t114,t115⟩,A340,H⟩:=H
      replace H:((Amk.f t114 t115).bind fun t116=>((Amf.f kj3 (([t113,t116]:List Int))).bind fun t120=>(some t120))) = some r:=H
      have A34:=z_ A340
      clear A340
      replace H:=Option.bind_eq_some_iff.mp H
      obtain ⟨t116,A350,H⟩:=H
      replace H:((Amf.f kj3 (([t113,t116]:List Int))).bind fun t120=>(some t120)) = some r:=H
      have A35:=z_ A350
      clear A350
      obtain ⟨y117,hy117⟩:∃ y_:List Int,y_ = (([t113,t116]:List Int)):=⟨_,rfl⟩
      replace H:((Amf.f kj3 y117).bind fun t120=>(some t120)) = some r:=by first|(rw [hy117];with_reducible exact H)|(have H2_:=(Option.bind_some _ _).symm.trans H;rw [hy117];with_reducible exact H2_)|(have H2_:=(Option.bind_some _ _).symm.trans H;with_reducible exact H2_)|with_reducible exact H|(rw [hy117];exact H)|exact H
      have Ny117:=z_ hy117
      clear hy117
      replace H:=Option.bind_eq_some_iff.mp H
      obtain ⟨t120,A360,H⟩:=H
      replace H:(some t120) = some r:=H
      have A36:=z_ A360
      clear A360
      obtain rfl:=Option.some.inj H
      have hnb37:=NB105_106.out
      have hnc37:=NB106_105.out
      have hnb38:=NB105_107.out
      have hnc38:=NB107_105.out
      obtain ⟨_,_,_,_,_,_,_,_⟩:=Rr BK105.out
      try go_wp2
      have n0_:=z_ (A7 BK105.out)
      have n1_:=z_ (A7 BK106.out)
      have n2_:=z_ (A7 BK107.out)
      have n3_:=z_ (z1 HB.out)
      clear BK105
      clear BK106
      clear BK107
      clear HB
      have BK105:=n0_
      have BK106:=n1_
      have BK107:=n2_
      have HB:=n3_
      clear n0_ n1_ n2_ n3_
      refine start_ (n:=9) (S:=fun w'=>w'.cell? ⟨gb107,0,none⟩ = some (.int .i64 a0_0) ∧ w'.cell? ⟨gb107,1,none⟩ = some (.int .i64 a0_1) ∧ w'.cell? ⟨gb107,2,none⟩ = some (.int .i64 a0_2) ∧ w'.cell? ⟨gb107,3,none⟩ = some (.string a0_3) ∧ w'.cell? ⟨gb107,4,none⟩ = some (.int .i64 a1_0) ∧ w'.cell? ⟨gb107,5,none⟩ = some (.int .i64 a1_1) ∧ w'.cell? ⟨gb107,6,none⟩ = some (.int .i64 a1_2) ∧ w'.cell? ⟨gb107,7,none⟩ = some (.string a1_3)) (ds:=[]) #[false,false,false,false,false,false,false,false,false] (by kernel_rfl) rfl rfl ⟨(Oi BK107.out 0).trans rfl,(Oi BK107.out 1).trans rfl,(Oi BK107.out 2).trans rfl,(Oi BK107.out 3).trans rfl,(Oi BK107.out 4).trans rfl,(Oi BK107.out 5).trans rfl,(Oi BK107.out 6).trans rfl,(Oi BK107.out 7).trans rfl⟩ (fun hHeld=>?_);refine with_tabW Aem.tab7 Aem.bits7 (fun HT_ HW_=>?_)
      generalize wc.drew = w40 at BK105 BK106 BK107 HB hHeld ⊢
      refine take_ (i:=0) (N:=some 36) (v:=?_) (a':=?_) #[true,false,false,false,false,false,false,false,false] rfl rfl (take_ofW HT_.out HW_.out (by kernel_rfl)) (fun _ _ _ h=>h) (Or.inl ⟨by rfl,?_⟩) hHeld ?_ ?_
      rotate_left
      ·rintro w' ⟨s0,s1,s2,s3,s4,s5,s6,s7⟩
       go_simp
       with_reducible rfl
      rotate_left
      ·simp only [Act.put,List.setIfInBounds_toArray,List.set_cons_zero,List.set_cons_succ,i64_w,i32_w]
       rfl
      refine take_ (i:=3) (N:=some 39) (v:=?_) (a':=?_) #[true,false,false,true,false,false,false,false,false] rfl rfl (take_ofW HT_.out HW_.out (by kernel_rfl)) (fun _ _ _ h=>h) (Or.inl ⟨by rfl,?_⟩) hHeld ?_ ?_
      rotate_left
      ·rintro w' ⟨s0,s1,s2,s3,s4,s5,s6,s7⟩
       go_simp
       with_reducible rfl
      rotate_left
      ·simp only [Act.put,List.setIfInBounds_toArray,List.set_cons_zero,List.set_cons_succ,i64_w,i32_w]
       rfl
      refine one_ (i:=1) (N:=some 37) #[true,true,false,true,false,false,false,false,false] rfl rfl (one_of HT_.out (by kernel_rfl)) (by decide) (fun K hK=>?_)
      refine goes_ Try.func86 (by kernel_rfl) rfl #[.agg #[.int .i64 a0_0, .int .i64 a0_1, .int .i64 a0_2, .string a0_3, .int .i64 a1_0, .int .i64 a1_1, .int .i64 a1_2, .string a1_3], .func (.func 89) #[] #[]] (by rfl) rfl rfl W4 ?_
      with_reducible refine (Amw.calls kj3 a0_0 a0_1 a0_2 a0_3 a1_0 a1_1 a1_2 a1_3  t111 t112 _ A32.out).mono ?_
      rintro e w41 ⟨rfl,hb⟩
      refine ⟨_,rfl,?_⟩
      have n0_:=z_ (zk BK105.out hb)
      have n1_:=z_ (zk BK106.out hb)
      have n2_:=z_ (zk BK107.out hb)
      have n3_:=z_ (below_step A1x hb)
      clear BK105
      clear BK106
      clear BK107
      clear HB
      have BK105:=n0_
      have BK106:=n1_
      have BK107:=n2_
      have HB:=n3_
      clear n0_ n1_ n2_ n3_
      (try clear hb)
      (try clear hb2)
      (try clear hk)
      (try clear hi)
      refine hK.out _ _ ⟨(Oi BK107.out 0).trans rfl,(Oi BK107.out 1).trans rfl,(Oi BK107.out 2).trans rfl,(Oi BK107.out 3).trans rfl,(Oi BK107.out 4).trans rfl,(Oi BK107.out 5).trans rfl,(Oi BK107.out 6).trans rfl,(Oi BK107.out 7).trans rfl⟩ (fun hHeld=>?_)
      clear hK K
      refine norm_ (a':=?_) ?_ ?_
      rotate_left
      ·show Act.put _ (some 37) _ = _
       simp only [Act.put,List.setIfInBounds_toArray,List.set_cons_zero,List.set_cons_succ,i64_w,i32_w]
       rfl
      refine one_ (i:=2) (N:=some 38) #[true,true,true,true,false,false,false,false,false] rfl rfl (one_of HT_.out (by kernel_rfl)) (by decide) (fun K hK=>?_)
      refine goes_ Try.func85 (by kernel_rfl) rfl #[.agg #[.int .i64 t111, .int .i64 t112]] (by rfl) rfl rfl W4 ?_
      with_reducible refine (Amk.calls t111 t112 t113 _ A33.out).mono ?_
      rintro e w42 ⟨rfl,hb⟩
      refine ⟨_,rfl,?_⟩
      have n0_:=z_ (zk BK105.out hb)
      have n1_:=z_ (zk BK106.out hb)
      have n2_:=z_ (zk BK107.out hb)
      have n3_:=z_ (below_step A1x hb)
      clear BK105
      clear BK106
      clear BK107
      clear HB
      have BK105:=n0_
      have BK106:=n1_
      have BK107:=n2_
      have HB:=n3_
      clear n0_ n1_ n2_ n3_
      (try clear hb)
      (try clear hb2)
      (try clear hk)
      (try clear hi)
      refine hK.out _ _ ⟨(Oi BK107.out 0).trans rfl,(Oi BK107.out 1).trans rfl,(Oi BK107.out 2).trans rfl,(Oi BK107.out 3).trans rfl,(Oi BK107.out 4).trans rfl,(Oi BK107.out 5).trans rfl,(Oi BK107.out 6).trans rfl,(Oi BK107.out 7).trans rfl⟩ (fun hHeld=>?_)
      clear hK K
      refine norm_ (a':=?_) ?_ ?_
      rotate_left
      ·show Act.put _ (some 38) _ = _
       simp only [Act.put,List.setIfInBounds_toArray,List.set_cons_zero,List.set_cons_succ,i64_w,i32_w]
       rfl
      refine one_ (i:=4) (N:=some 40) #[true,true,true,true,true,false,false,false,false] rfl rfl (one_of HT_.out (by kernel_rfl)) (by decide) (fun K hK=>?_)
      refine goes_ Try.func86 (by kernel_rfl) rfl #[.agg #[.int .i64 a0_0, .int .i64 a0_1, .int .i64 a0_2, .string a0_3, .int .i64 a1_0, .int .i64 a1_1, .int .i64 a1_2, .string a1_3], .func (.func 90) #[] #[]] (by rfl) rfl rfl W4 ?_
      with_reducible refine (Amn.calls kj3 a0_0 a0_1 a0_2 a0_3 a1_0 a1_1 a1_2 a1_3  t114 t115 _ A34.out).mono ?_
      rintro e w43 ⟨rfl,hb⟩
      refine ⟨_,rfl,?_⟩
      have n0_:=z_ (zk BK105.out hb)
      have n1_:=z_ (zk BK106.out hb)
      have n2_:=z_ (zk BK107.out hb)
      have n3_:=z_ (below_step A1x hb)
      clear BK105
      clear BK106
      clear BK107
      clear HB
      have BK105:=n0_
      have BK106:=n1_
      have BK107:=n2_
      have HB:=n3_
      clear n0_ n1_ n2_ n3_
      (try clear hb)
      (try clear hb2)
      (try clear hk)
      (try clear hi)
      refine hK.out _ _ ⟨(Oi BK107.out 0).trans rfl,(Oi BK107.out 1).trans rfl,(Oi BK107.out 2).trans rfl,(Oi BK107.out 3).trans rfl,(Oi BK107.out 4).trans rfl,(Oi BK107.out 5).trans rfl,(Oi BK107.out 6).trans rfl,(Oi BK107.out 7).trans rfl⟩ (fun hHeld=>?_)
      clear hK K
      refine norm_ (a':=?_) ?_ ?_
      rotate_left
      ·show Act.put _ (some 40) _ = _
       simp only [Act.put,List.setIfInBounds_toArray,List.set_cons_zero,List.set_cons_succ,i64_w,i32_w]
       rfl
      refine one_ (i:=5) (N:=some 41) #[true,true,true,true,true,true,false,false,false] rfl rfl (one_of HT_.out (by kernel_rfl)) (by decide) (fun K hK=>?_)
      refine goes_ Try.func85 (by kernel_rfl) rfl #[.agg #[.int .i64 t114, .int .i64 t115]] (by rfl) rfl rfl W4 ?_
      with_reducible refine (Amk.calls t114 t115 t116 _ A35.out).mono ?_
      rintro e w44 ⟨rfl,hb⟩
      refine ⟨_,rfl,?_⟩
      have n0_:=z_ (zk BK105.out hb)
      have n1_:=z_ (zk BK106.out hb)
      have n2_:=z_ (zk BK107.out hb)
      have n3_:=z_ (below_step A1x hb)
      clear BK105
      clear BK106
      clear BK107
      clear HB
      have BK105:=n0_
      have BK106:=n1_
      have BK107:=n2_
      have HB:=n3_
      clear n0_ n1_ n2_ n3_
      (try clear hb)
      (try clear hb2)
      (try clear hk)
      (try clear hi)
      refine hK.out _ _ ⟨(Oi BK107.out 0).trans rfl,(Oi BK107.out 1).trans rfl,(Oi BK107.out 2).trans rfl,(Oi BK107.out 3).trans rfl,(Oi BK107.out 4).trans rfl,(Oi BK107.out 5).trans rfl,(Oi BK107.out 6).trans rfl,(Oi BK107.out 7).trans rfl⟩ (fun hHeld=>?_)
      clear hK K
      refine norm_ (a':=?_) ?_ ?_
      rotate_left
      ·show Act.put _ (some 41) _ = _
       simp only [Act.put,List.setIfInBounds_toArray,List.set_cons_zero,List.set_cons_succ,i64_w,i32_w]
       rfl
      refine one_ (i:=6) (N:=some 42) #[true,true,true,true,true,true,true,false,false] rfl rfl (one_of HT_.out (by kernel_rfl)) (by decide) (fun K hK=>?_)
      refine Kd.R_lit_step (Kd.int .i64) _ 3 ?hg (N:=42) ?hd (xs:=([t113,t116]:List Int)) (inner:=[.int .i64 t113, .int .i64 t116]) (ok:=fun _=>True) (okp:=fun _=>True) ?hr ?hp (fun _ hk=>hk) trivial (Below.refl _ _) (Nat.le_refl _) (by simp) ?_;(case hd=>rfl);(case hg=>rfl);(case hr=>first|(go_simp;done)|(go_simp;rfl));(case hp=>exact (Reps.one (show Kd.M (Kd.int .i64) _ _ _ t113 [.int .i64 t113] from rfl) (Reps.one (show Kd.M (Kd.int .i64) _ _ _ t116 [.int .i64 t116] from rfl) (Reps.none _ _))))
      intro v118 w45 ho46 hb hg_ hnew_
      clear hg_ hnew_
      (first|rw [← Ny117.out] at ho46|(simp only [Int.reduceToNat] at ho46;rw [← Ny117.out] at ho46))
      have n0_:=z_ (Kd.R_lower ho46 (zBs A1x))
      have n1_:=z_ (zk BK105.out hb)
      have n2_:=z_ (zk BK106.out hb)
      have n3_:=z_ (zk BK107.out hb)
      have n4_:=z_ (below_step A1x hb)
      clear BK105
      clear BK106
      clear BK107
      clear HB
      have HO119:=n0_
      have BK105:=n1_
      have BK106:=n2_
      have BK107:=n3_
      have HB:=n4_
      clear n0_ n1_ n2_ n3_ n4_
      clear hb ho46
      obtain ⟨Ao47,co47,eo47⟩:=Kd.R_slice HO119.out
      (first|subst eo47|(injection eo47 with f1_ f2_ f3_;have f4_:=f1_.symm;have f5_:=f3_.symm;clear f1_ f2_ f3_;subst f4_;subst f5_))
      refine hK.out _ _ ⟨(Oi BK107.out 0).trans rfl,(Oi BK107.out 1).trans rfl,(Oi BK107.out 2).trans rfl,(Oi BK107.out 3).trans rfl,(Oi BK107.out 4).trans rfl,(Oi BK107.out 5).trans rfl,(Oi BK107.out 6).trans rfl,(Oi BK107.out 7).trans rfl⟩ (fun hHeld=>?_)
      clear hK K
      refine norm_ (a':=?_) ?_ ?_
      rotate_left
      ·show Act.put _ (some 42) _ = _
       simp only [Act.put,List.setIfInBounds_toArray,List.set_cons_zero,List.set_cons_succ,i64_w,i32_w]
       rfl
      refine one_ (i:=7) (N:=some 43) #[true,true,true,true,true,true,true,true,false] rfl rfl (one_of HT_.out (by kernel_rfl)) (by decide) (fun K hK=>?_)
      refine goes_ Try.func88 (by kernel_rfl) rfl #[.slice Ao47 y117.length co47] (by rfl) rfl rfl W4 ?_
      with_reducible refine (Amf.calls kj3 _ _ y117 t120 _ ?side1 ?side2 A36.out).mono ?_
      (case side1=>repeat (first|exact (Kd.R_reads' HO119.out).2.2|(with_reducible refine Kd.C_alloc ?_ _)|(with_reducible refine Kd.C_drewN ?_ _)|(with_reducible refine Kd.C_drew ?_)))
      (case side2=>exact (Kd.R_reads' HO119.out).2.1)
      rintro e w' ⟨rfl,⟨nd,rfl⟩⟩
      refine ⟨_,rfl,?_⟩
      refine hK.out _ _ ⟨(Oi BK107.out 0).trans rfl,(Oi BK107.out 1).trans rfl,(Oi BK107.out 2).trans rfl,(Oi BK107.out 3).trans rfl,(Oi BK107.out 4).trans rfl,(Oi BK107.out 5).trans rfl,(Oi BK107.out 6).trans rfl,(Oi BK107.out 7).trans rfl⟩ (fun hHeld=>?_)
      clear hK K
      refine norm_ (a':=?_) ?_ ?_
      rotate_left
      ·show Act.put _ (some 43) _ = _
       simp only [Act.put,List.setIfInBounds_toArray,List.set_cons_zero,List.set_cons_succ,i64_w,i32_w]
       rfl
      refine pure_ (i:=8) (N:=some 4) (v:=?_) (a':=?_) #[true,true,true,true,true,true,true,true,true] rfl rfl (any_of HT_.out (by kernel_rfl)) (fun _ _ _ h=>h) (Or.inl ⟨by rfl,?_⟩) ?_ ?_
      rotate_left
      ·intro w'
       go_simp
       with_reducible rfl
      rotate_left
      ·simp only [Act.put,List.setIfInBounds_toArray,List.set_cons_zero,List.set_cons_succ,i64_w,i32_w]
       rfl
      refine done_ (done_of HT_.out (by kernel_rfl)) ?_
      try go_wp2
      go_ret
      exact ⟨by first|rfl|(simp [errW_none,errW_some] <;> rfl)|(simp [*,errW_none,errW_some] <;> rfl),by repeat first|(with_reducible first|exact HB.out|apply zA|apply zN|apply z1|refine zS ?_ GE105.out|refine zS ?_ GE106.out|refine zS ?_ GE107.out)|exact HB.out⟩
     ·rw [if_neg c31] at H
      have c31b0:(a0_0 == 3) = false:=beq_eq_false_iff_ne.mpr c31
      have c31b1:(a0_0 != 3) = true:=bne_iff_ne.mpr c31
      replace H:=Option.bind_eq_some_iff.mp H
      obtain ⟨t121,A480,H⟩:=H
      replace H:(some t121) = some r:=H
      have A48:=z_ A480
      clear A480
      obtain rfl:=Option.some.inj H
      have hnb49:=NB105_106.out
      have hnc49:=NB106_105.out
      have hnb50:=NB105_107.out
      have hnc50:=NB107_105.out
      obtain ⟨_,_,_,_,_,_,_,_⟩:=Rr BK105.out
      have hnb52:=NB106_107.out
      have hnc52:=NB107_106.out
      obtain ⟨_,_,_,_,_,_,_,_⟩:=Rr BK106.out
      go_wp2_with (first|((with_reducible refine gate_callee (f:=91) rfl ?_);refine goesL_ (some 48) rfl rfl Try.func91 (by kernel_rfl) rfl #[.string a0_3, .string a1_3] rfl W4 ?_;(with_reducible refine (strings_Compare.calls a0_3 a1_3 t121 _ A48.out).mono ?_);rintro e w' ⟨rfl,⟨nd,rfl⟩⟩;refine ⟨_,rfl,?_⟩))
      go_ret
      exact ⟨by first|rfl|(simp [errW_none,errW_some] <;> rfl)|(simp [*,errW_none,errW_some] <;> rfl),by repeat first|(with_reducible first|exact HB.out|apply zA|apply zN|apply z1|refine zS ?_ GE105.out|refine zS ?_ GE106.out|refine zS ?_ GE107.out)|exact HB.out⟩
 ·rw [if_neg c3] at H
  have c3b0:(a0_0 == a1_0) = false:=beq_eq_false_iff_ne.mpr c3
  have c3b1:(a0_0 != a1_0) = true:=bne_iff_ne.mpr c3
  replace H:=Option.bind_eq_some_iff.mp H
  obtain ⟨t122,A540,H⟩:=H
  replace H:(some t122) = some r:=H
  have A54:=z_ A540
  clear A540
  obtain rfl:=Option.some.inj H
  go_enter Try.func79,Try.ntmps79
  go_wp2_with (first|((with_reducible refine gate_dst (N:=2) rfl ?_);refine box_event (by rfl) (N:=2) (by rfl) (cs:=#[.int .i64 a0_0, .int .i64 a0_1, .int .i64 a0_2, .string a0_3]) (t:=28) W3 ?_;intro gb105 hg w55 hbox hb;have BK105:=z_ (hbox);have GW105:=z_ ((W0:w.heap.size ≤ gb105));have GE105:=z_ ((W0:w.heap.size ≤ gb105));replace HB:=z_ (below_step W5 hb);clear hb hbox hg)|((with_reducible refine gate_dst (N:=3) rfl ?_);refine box_event (by rfl) (N:=3) (by rfl) (cs:=#[.int .i64 a1_0, .int .i64 a1_1, .int .i64 a1_2, .string a1_3]) (t:=28) W3 ?_;intro gb106 hg w56 hbox hb;have BK106:=z_ (hbox);have GW106:=z_ ((by rw [hg];exact (zBs A2r):w.heap.size ≤ gb106));have GE106:=z_ ((by rw [hg];exact (zBs A2r):w.heap.size ≤ gb106));replace HB:=z_ (below_step A2r hb);have NB105_106:=z_ ((A3y:gb105 ≠ gb106));have NB106_105:=z_ ((A3v:gb106 ≠ gb105));replace BK105:=z_ (zk BK105.out hb);clear hb hbox hg;have hnb57:=NB105_106.out;have hnc57:=NB106_105.out;obtain ⟨_,_,_,_,_,_,_,_⟩:=Rr BK105.out;obtain ⟨_,_,_,_,_,_,_,_⟩:=Rr BK106.out)|((with_reducible refine gate_dst (N:=5) rfl ?_);refine box_event (by rfl) (N:=5) (by rfl) (cs:=#[.int .i64 0, .int .i64 0, .int .i64 0, .string (⟨#[]⟩:ByteArray), .int .i64 0, .int .i64 0, .int .i64 0, .string (⟨#[]⟩:ByteArray)]) (t:=117) W3 ?_;intro gb107 hg w60 hbox hb;have BK107:=z_ (hbox);have GW107:=z_ ((by rw [hg];exact (zBs A2q):w.heap.size ≤ gb107));have GE107:=z_ ((by rw [hg];exact (zBs A2q):w.heap.size ≤ gb107));replace HB:=z_ (below_step A2q hb);have NB105_107:=z_ ((A3y:gb105 ≠ gb107));have NB107_105:=z_ ((A3v:gb107 ≠ gb105));replace BK105:=z_ (zk BK105.out hb);have NB106_107:=z_ ((A6x:gb106 ≠ gb107));have NB107_106:=z_ ((A6k:gb107 ≠ gb106));replace BK106:=z_ (zk BK106.out hb);clear hb hbox hg;have hnb61:=NB107_105.out;have hnc61:=NB105_107.out;have hnb62:=NB107_106.out;have hnc62:=NB106_107.out;obtain ⟨_,_,_,_,_,_,_,_,_,_,_,_,_,_,_,_⟩:=zc8 BK107.out;obtain ⟨_,_,_,_,_,_,_,_⟩:=Rr BK105.out;obtain ⟨_,_,_,_,_,_,_,_⟩:=Rr BK106.out)|((with_reducible refine gate_callee (f:=84) rfl ?_);refine goesL_ (some 19) rfl rfl Try.func84 (by kernel_rfl) rfl #[.int .i64 a0_0, .int .i64 a1_0] rfl W4 ?_;(with_reducible refine (cmp_Compare_int.calls a0_0 a1_0 t122 _ A54.out).mono ?_);rintro e w' ⟨rfl,⟨nd,rfl⟩⟩;refine ⟨_,rfl,?_⟩))
  go_ret
  exact ⟨by first|rfl|(simp [errW_none,errW_some] <;> rfl)|(simp [*,errW_none,errW_some] <;> rfl),by repeat first|(with_reducible first|exact HB.out|apply zA|apply zN|apply z1|refine zS ?_ GE105.out|refine zS ?_ GE106.out|refine zS ?_ GE107.out)|exact HB.out⟩
end Go.Proofs.Ytglffgneikoeaaa.M
namespace Go.Proofs.Ytglffgneikoeaaa.M
open Go.RowKit Go.Proofs.YtglffgneikoeaaaW.PrintWords Go.Proofs.YtglffgneikoeaaaW.PrintLast Go.Proofs.YtglffgneikoeaaaW.PrintMore
attribute [local go_sem] max2_int min2_int max_two min_two max_three min_three max_four min_four
attribute [local go_sem high] own_gtr own_leq own_geq own_cell_set Option.map_some
set_option linter.unusedVariables false
set_option linter.unusedSimpArgs false
def cmpI (a b:Int):Int:=if a < b then -1 else if b < a then 1 else 0
def cmpT (a b:ByteArray):Int:=if Op.bytesLess a.toList b.toList=true then -1 else if Op.bytesLess b.toList a.toList=true then 1 else 0
theorem A5s:∀ a b:List UInt8,Lib.compareBytes a b=if Op.bytesLess a b=true then -1 else if Op.bytesLess b a=true then 1 else 0
 | [],[]=>rfl
 | [],_::_=>rfl
 | _::_,[]=>rfl
 | x::a,y::b=>by
  simp only [Lib.compareBytes,Op.bytesLess]
  have ih:=A5s a b
  by_cases h1:x < y
  ·simp [h1]
  ·by_cases h2:y < x
   ·have h3:¬ x=y:=by rintro rfl;exact h1 h2
    simp [h1,h2,h3]
   ·have h3:x=y:=by
     apply UInt8.toNat_inj.1
     rw [UInt8.lt_iff_toNat_lt] at *;omega
    subst h3
    simp [h1,ih]
theorem A7b (a b:ByteArray):strings_Compare.f a b=some (cmpT a b):=by
 unfold strings_Compare.f cmpT
 rw [A5s,ByteArray.toList_eq,ByteArray.toList_eq]
def mic (n sc:Int):Int:=n*p10 (6 - sc.toNat)
def ordB (k1 n1 s1:Int) (t1:ByteArray) (k2 n2 s2:Int) (t2:ByteArray):Int :=
 if k1=k2 then (if k1=1∨k1=2 then cmpI n1 n2 else if k1=3 then cmpI (mic n1 s1) (mic n2 s2) else cmpT t1 t2) else cmpI k1 k2
theorem cmp_eq (a b:Int):cmp_Compare_int.f a b=some (cmpI a b):=by
 unfold cmp_Compare_int.f cmp_isNaN_int.f cmpI
 simp only [Option.bind_some,bne_self_eq_false,Bool.false_eq_true,if_false]
 by_cases h:a < b
 ·rw [if_pos h,if_pos h]
 ·rw [if_neg h,if_neg h]
  by_cases h2:b < a
  ·rw [if_pos h2,if_pos h2]
  ·rw [if_neg h2,if_neg h2]
theorem A3b (a b:Int):Aeo.f a b=some (cmpI a b):=by
 unfold Aeo.f cmpI
 by_cases h:a < b
 ·rw [if_pos h,if_pos h]
 ·rw [if_neg h,if_neg h]
  by_cases h2:b < a
  ·rw [if_pos h2,if_pos h2]
  ·rw [if_neg h2,if_neg h2]
theorem A7g (a b:ByteArray):A17.f a b=some (cmpT a b):=by
 unfold A17.f cmpT
 by_cases h:Op.bytesLess a.toList b.toList=true
 ·rw [if_pos h,if_pos h]
 ·rw [if_neg h,if_neg h]
  by_cases h2:Op.bytesLess b.toList a.toList=true
  ·rw [if_pos h2,if_pos h2]
  ·rw [if_neg h2,if_neg h2]
theorem cmpI_congr {a b c d:Int} (h:c < d↔a < b) (k:d < c↔b < a):cmpI c d=cmpI a b:=by
 unfold cmpI;simp only [h,k]
theorem parts_order {a b:Int} (q:Int) (hq:0 < q):(if cmpI (a.tdiv q) (b.tdiv q)=0 then cmpI (a.tmod q) (b.tmod q) else cmpI (a.tdiv q) (b.tdiv q))=cmpI a b:=by
 have ha:=Int.mul_tdiv_add_tmod a q
 have hb:=Int.mul_tdiv_add_tmod b q
 have a1:=Int.tmod_lt_of_pos a hq
 have b1:=Int.tmod_lt_of_pos b hq
 have a2:a.tmod q = -((-a).tmod q):=by rw [Int.neg_tmod];omega
 have b2:b.tmod q = -((-b).tmod q):=by rw [Int.neg_tmod];omega
 have a3:=Int.tmod_lt_of_pos (-a) hq
 have b3:=Int.tmod_lt_of_pos (-b) hq
 have a4:0≤a→0≤a.tmod q:=fun h=>Int.tmod_nonneg _ h
 have b4:0≤b→0≤b.tmod q:=fun h=>Int.tmod_nonneg _ h
 have a5:0≤-a→0≤(-a).tmod q:=fun h=>Int.tmod_nonneg _ h
 have b5:0≤-b→0≤(-b).tmod q:=fun h=>Int.tmod_nonneg _ h
 have a6:0≤a→0≤a.tdiv q:=fun h=>Int.tdiv_nonneg h (by omega)
 have b6:0≤b→0≤b.tdiv q:=fun h=>Int.tdiv_nonneg h (by omega)
 have a7:0≤-a→0≤-(a.tdiv q):=fun h=>by rw [← Int.neg_tdiv];exact Int.tdiv_nonneg h (by omega)
 have b7:0≤-b→0≤-(b.tdiv q):=fun h=>by rw [← Int.neg_tdiv];exact Int.tdiv_nonneg h (by omega)
 generalize a.tdiv q=u at *
 generalize b.tdiv q=v at *
 generalize a.tmod q=c at *
 generalize b.tmod q=d at *
 generalize (-a).tmod q=e at *
 generalize (-b).tmod q=f at *
 rcases Int.lt_trichotomy u v with h|h|h
 ·have h1:q*u+q≤q*v:=by
   have:=Int.mul_le_mul_of_nonneg_left (show u+1≤v by omega) (show 0≤q by omega)
   rw [Int.mul_add,Int.mul_one] at this;exact this
  have:cmpI u v = -1:=by unfold cmpI;rw [if_pos h]
  rw [if_neg (by rw [this];decide),this]
  unfold cmpI
  by_cases ha0:0≤a
  ·by_cases hb0:0≤b
   ·rw [if_pos (by omega)]
   ·have:=b7 (by omega);have:=a6 ha0;omega
  ·rw [if_pos (by by_cases hb0:0≤b<;>omega)]
 ·subst h
  have:cmpI u u=0:=by unfold cmpI;rw [if_neg (Int.lt_irrefl _),if_neg (Int.lt_irrefl _)]
  rw [if_pos this]
  clear this
  obtain ⟨m,hm⟩:∃ m,m=q*u:=⟨_,rfl⟩
  rw [← hm] at ha hb
  exact cmpI_congr (by omega) (by omega)
 ·have h1:q*v+q≤q*u:=by
   have:=Int.mul_le_mul_of_nonneg_left (show v+1≤u by omega) (show 0≤q by omega)
   rw [Int.mul_add,Int.mul_one] at this;exact this
  have:cmpI u v=1:=by unfold cmpI;rw [if_neg (by omega),if_pos h]
  rw [if_neg (by rw [this];decide),this]
  unfold cmpI
  by_cases hb0:0≤b
  ·by_cases ha0:0≤a
   ·rw [if_neg (by omega),if_pos (by omega)]
   ·have:=a7 (by omega);have:=b6 hb0;omega
  ·rw [if_neg (by by_cases ha0:0≤a<;>omega),if_pos (by by_cases ha0:0≤a<;>omega)]
theorem parts_order' {a b:Int} (q:Int) (hq:0 < q):(if cmpI (a / q) (b / q)=0 then cmpI (a % q) (b % q) else cmpI (a / q) (b / q))=cmpI a b:=by
 have ha:=Int.mul_ediv_add_emod a q
 have hb:=Int.mul_ediv_add_emod b q
 have a1:=Int.emod_lt_of_pos a hq
 have b1:=Int.emod_lt_of_pos b hq
 have a4:=Int.emod_nonneg a (show q≠0 by omega)
 have b4:=Int.emod_nonneg b (show q≠0 by omega)
 generalize a / q=u at *
 generalize b / q=v at *
 generalize a % q=c at *
 generalize b % q=d at *
 rcases Int.lt_trichotomy u v with h|h|h
 ·have h1:q*u+q≤q*v:=by
   have:=Int.mul_le_mul_of_nonneg_left (show u+1≤v by omega) (show 0≤q by omega)
   rw [Int.mul_add,Int.mul_one] at this;exact this
  have:cmpI u v = -1:=by unfold cmpI;rw [if_pos h]
  rw [if_neg (by rw [this];decide),this]
  unfold cmpI
  rw [if_pos (by omega)]
 ·subst h
  have:cmpI u u=0:=by unfold cmpI;rw [if_neg (Int.lt_irrefl _),if_neg (Int.lt_irrefl _)]
  rw [if_pos this]
  clear this
  obtain ⟨m,hm⟩:∃ m,m=q*u:=⟨_,rfl⟩
  rw [← hm] at ha hb
  exact cmpI_congr (by omega) (by omega)
 ·have h1:q*v+q≤q*u:=by
   have:=Int.mul_le_mul_of_nonneg_left (show v+1≤u by omega) (show 0≤q by omega)
   rw [Int.mul_add,Int.mul_one] at this;exact this
  have:cmpI u v=1:=by unfold cmpI;rw [if_neg (by omega),if_pos h]
  rw [if_neg (by rw [this];decide),this]
  unfold cmpI
  rw [if_neg (by omega),if_pos (by omega)]
theorem A9r (a b:Int) (k:Nat) (hk:2 < k):Amf.f k [a,b]=some (if a=0 then b else a):=by
 obtain ⟨k,rfl⟩:∃ m,k=m+3:=⟨k - 3,by omega⟩
 unfold Amf.f
 have e0:rd [a,b] 0=a:=rfl
 have e1:rd [a,b] 1=b:=rfl
 simp only [List.length_cons,List.length_nil,Amf.l0]
 rw [if_pos (by omega),if_pos (by omega),if_pos (by omega),e0,wrap64_of (by omega) (by omega)]
 by_cases h:a=0
 ·rw [if_pos h,if_pos h,if_pos (by omega),if_pos (by omega),if_pos (by omega),show (0:Int)+1=1 from rfl,e1,wrap64_of (by omega) (by omega)]
  by_cases h2:b=0
  ·rw [if_pos h2,if_neg (by omega),h2]
  ·rw [if_neg h2]
 ·rw [if_neg h,if_neg h]
theorem p10_six_sub (s:Nat) (h:s≤6):p10 s*p10 (6 - s)=1000000:=by
 rw [← p10_add,show s+(6 - s)=6 by omega,p10_six]
theorem A46 (k:Nat) (kd n:Int) (s:Nat) (st:ByteArray) (hk:18 < k) (hs:s≤6) (h0 : -1000000000000000 < n) (h1:n < 1000000000000000):A0x.f k kd n (s:Int) st=some (n.tdiv (p10 s)):=by
 unfold A0x.f
 have e:mn (mx (s:Int) 0) 6=(s:Int):=by unfold mn mx;split<;>split<;>omega
 rw [e,A2u k s hk (by omega)]
 simp only [Option.bind_some]
 have:=p10_pos s
 rw [if_neg (by omega)]
 have h2:=Int.natAbs_tdiv_le_natAbs n (p10 s)
 rw [wrap64_of (by omega) (by omega)]
theorem tdiv_pows (s:Nat) (hs:s≤6):Int.tdiv (p10 6) (p10 s)=p10 (6 - s):=by
 have h:=p10_six_sub s hs
 rw [p10_six,← h,Int.mul_comm,Int.mul_tdiv_cancel _ (by have:=p10_pos s;omega)]
theorem A5c (k:Nat) (kd n:Int) (s:Nat) (st:ByteArray) (hk:18 < k) (hs:s≤6) (h0 : -1000000000000000 < n) (h1:n < 1000000000000000):A0y.f k kd n (s:Int) st=some (n.tmod (p10 s)*p10 (6 - s)):=by
 unfold A0y.f
 have e:mn (mx (s:Int) 0) 6=(s:Int):=by unfold mn mx;split<;>split<;>omega
 rw [e,A2u k s hk (by omega)]
 simp only [Option.bind_some]
 have hp:=p10_pos s
 rw [if_neg (by omega),show (6:Int)=((6:Nat):Int) from rfl,A2u k 6 hk (by omega)]
 simp only [Option.bind_some]
 rw [tdiv_pows s hs]
 have hq:=p10_pos (6 - s)
 have hq2:=p10_le (6 - s) (by omega)
 rw [wrap64_of (x:=p10 (6 - s)) (by omega) (by omega)]
 have h6:=p10_six_sub s hs
 have b1:(n.tmod (p10 s)).natAbs≤n.natAbs:=by rw [Int.natAbs_tmod];exact Nat.mod_le _ _
 have b2:=Int.tmod_lt_of_pos n hp
 have b3:=Int.tmod_lt_of_pos (-n) hp
 rw [Int.neg_tmod] at b3
 have b4:n.tmod (p10 s)*p10 (6 - s)≤p10 s*p10 (6 - s):=Int.mul_le_mul_of_nonneg_right (by omega) (by omega)
 have b5 : -(n.tmod (p10 s))*p10 (6 - s)≤p10 s*p10 (6 - s):=Int.mul_le_mul_of_nonneg_right (by omega) (by omega)
 rw [Int.neg_mul] at b5
 rw [wrap64_of (by omega) (by omega)]
theorem mic_tdiv (n:Int) (s:Nat) (hs:s≤6):(n*p10 (6 - s)).tdiv 1000000=n.tdiv (p10 s):=by
 rw [← p10_six_sub s hs];exact Int.mul_tdiv_mul_of_pos_left _ _ (p10_pos _)
theorem mic_tmod (n:Int) (s:Nat) (hs:s≤6):(n*p10 (6 - s)).tmod 1000000=n.tmod (p10 s)*p10 (6 - s):=by
 have h1:=Int.mul_tdiv_add_tmod (n*p10 (6 - s)) 1000000
 have h2:=Int.mul_tdiv_add_tmod n (p10 s)
 rw [mic_tdiv n s hs] at h1
 have h3:(p10 s*n.tdiv (p10 s)+n.tmod (p10 s))*p10 (6 - s)=n*p10 (6 - s):=by rw [h2]
 rw [Int.add_mul,Int.mul_assoc,Int.mul_comm (n.tdiv (p10 s)),← Int.mul_assoc,p10_six_sub s hs] at h3
 omega
theorem A7k (k:Nat) (k1 n1:Int) (s1:Nat) (t1:ByteArray) (k2 n2:Int) (s2:Nat) (t2:ByteArray) (hk:42 < k) (h1:k1=3→s1≤6∧-1000000000000000 < n1∧n1 < 1000000000000000) (h2:k2=3→s2≤6∧-1000000000000000 < n2∧n2 < 1000000000000000) :
  Aem.f k k1 n1 (s1:Int) t1 k2 n2 (s2:Int) t2=some (ordB k1 n1 (s1:Int) t1 k2 n2 (s2:Int) t2):=by
 obtain ⟨k,rfl⟩:∃ m,k=m+1:=⟨k - 1,by omega⟩
 unfold Aem.f ordB
 by_cases e:k1=k2
 ·rw [if_pos e,if_pos e]
  by_cases e1:k1=1
  ·rw [if_pos e1,if_pos (Or.inl e1)]
   simp only [Aem.j0,if_true,Amr.f,A0v.f,Amk.f,Option.bind_some,cmp_eq]
  ·rw [if_neg e1]
   simp only [Aem.j0]
   by_cases e2:k1=2
   ·rw [if_pos (by simpa using e2),if_pos (Or.inr e2)]
    simp only [Amr.f,A0v.f,Amk.f,Option.bind_some,cmp_eq]
   ·rw [if_neg (by simpa using e2),if_neg (show ¬(k1=1∨k1=2) by omega)]
    by_cases e3:k1=3
    ·rw [if_pos e3,if_pos e3]
     obtain ⟨a1,a2,a3⟩:=h1 e3
     obtain ⟨b1,b2,b3⟩:=h2 (by omega)
     simp only [Amw.f,Amn.f,A46 k _ n1 s1 _ (by omega) a1 a2 a3,A46 k _ n2 s2 _ (by omega) b1 b2 b3,A5c k _ n1 s1 _ (by omega) a1 a2 a3,A5c k _ n2 s2 _ (by omega) b1 b2 b3,Option.bind_some,Amk.f,cmp_eq,A9r _ _ k (by omega)]
     unfold mic
     have hp:=parts_order (a:=n1*p10 (6 - s1)) (b:=n2*p10 (6 - s2)) 1000000 (by decide)
     rw [mic_tdiv n1 s1 a1,mic_tdiv n2 s2 b1,mic_tmod n1 s1 a1,mic_tmod n2 s2 b1] at hp
     simp only [Int.toNat_natCast]
     rw [hp]
    ·rw [if_neg e3,if_neg e3,A7b];rfl
 ·rw [if_neg e,if_neg e,cmp_eq];rfl
theorem A3a (k:Nat) (kd n:Int) (s:Nat) (st:ByteArray) (hk:18 < k) (hs:s≤6) (h0 : -1000000000000000 < n) (h1:n < 1000000000000000):Aer.f k kd n (s:Int) st=some (n / p10 s,n % p10 s*p10 (6 - s)):=by
 unfold Aer.f
 have hp:=p10_pos s
 have hp2:=p10_le s (by omega)
 have hq:=p10_pos (6 - s)
 have hq2:=p10_le (6 - s) (by omega)
 have h6:=p10_six_sub s hs
 have b1:=Int.emod_lt_of_pos n hp
 have b2:=Int.emod_nonneg n (show p10 s≠0 by omega)
 have b4:n % p10 s*p10 (6 - s)≤p10 s*p10 (6 - s):=Int.mul_le_mul_of_nonneg_right (by omega) (by omega)
 have b5:0≤n % p10 s*p10 (6 - s):=Int.mul_nonneg b2 (by omega)
 have h2:=Int.mul_ediv_add_emod n (p10 s)
 have h3:=Int.mul_tdiv_add_tmod n (p10 s)
 have h4:=Int.natAbs_tdiv_le_natAbs n (p10 s)
 have b6:=Int.tmod_lt_of_pos n hp
 have b7:=Int.tmod_lt_of_pos (-n) hp
 rw [Int.neg_tmod] at b7
 rw [A2l k s hk (by omega)]
 simp only [Option.bind_some]
 rw [if_neg (by omega),show (6:Int) - (s:Int)=((6 - s:Nat):Int) by omega]
 rw [wrap64_of (x:=((6 - s:Nat):Int)) (by omega) (by omega),A2l k (6 - s) hk (by omega)]
 simp only [Option.bind_some]
 have hfl:n / p10 s=if n.tmod (p10 s) < 0 then n.tdiv (p10 s) - 1 else n.tdiv (p10 s):=by
  split
  ·exact ((Int.ediv_emod_unique (r:=n.tmod (p10 s)+p10 s) (q:=n.tdiv (p10 s) - 1) hp).2 ⟨by rw [Int.mul_sub,Int.mul_one];omega,by omega,by omega⟩).1
  ·exact ((Int.ediv_emod_unique (r:=n.tmod (p10 s)) (q:=n.tdiv (p10 s)) hp).2 ⟨by omega,by omega,by omega⟩).1
 by_cases hn:n.tmod (p10 s) < 0
 ·rw [if_pos hn]
  rw [if_pos hn] at hfl
  have e1:wrap64 (n.tdiv (p10 s))=n.tdiv (p10 s):=wrap64_of (by omega) (by omega)
  rw [e1,wrap64_of (x:=n.tdiv (p10 s) - 1) (by omega) (by omega),← hfl]
  have e2:n / p10 s*p10 s=n - n % p10 s:=by rw [Int.mul_comm];omega
  rw [e2,wrap64_of (x:=n - n % p10 s) (by omega) (by omega),show n - (n - n % p10 s)=n % p10 s by omega,wrap64_of (x:=n % p10 s) (by omega) (by omega),wrap64_of (by omega) (by omega)]
 ·rw [if_neg hn]
  rw [if_neg hn] at hfl
  have e1:wrap64 (n.tdiv (p10 s))=n.tdiv (p10 s):=wrap64_of (by omega) (by omega)
  rw [e1,← hfl]
  have e2:n / p10 s*p10 s=n - n % p10 s:=by rw [Int.mul_comm];omega
  rw [e2,wrap64_of (x:=n - n % p10 s) (by omega) (by omega),show n - (n - n % p10 s)=n % p10 s by omega,wrap64_of (x:=n % p10 s) (by omega) (by omega),wrap64_of (by omega) (by omega)]
theorem mic_ediv (n:Int) (s:Nat) (hs:s≤6):(n*p10 (6 - s)) / 1000000=n / p10 s:=by
 rw [← p10_six_sub s hs];exact Int.mul_ediv_mul_of_pos_left _ _ (p10_pos _)
theorem mic_emod (n:Int) (s:Nat) (hs:s≤6):(n*p10 (6 - s)) % 1000000=n % p10 s*p10 (6 - s):=by
 have h1:=Int.mul_ediv_add_emod (n*p10 (6 - s)) 1000000
 have h2:=Int.mul_ediv_add_emod n (p10 s)
 rw [mic_ediv n s hs] at h1
 have h3:(p10 s*(n / p10 s)+n % p10 s)*p10 (6 - s)=n*p10 (6 - s):=by rw [h2]
 rw [Int.add_mul,Int.mul_assoc,Int.mul_comm (n / p10 s),← Int.mul_assoc,p10_six_sub s hs] at h3
 omega
theorem A7f (k:Nat) (k1 n1:Int) (s1:Nat) (t1:ByteArray) (k2 n2:Int) (s2:Nat) (t2:ByteArray) (hk:42 < k) (h1:k1=3→s1≤6∧-1000000000000000 < n1∧n1 < 1000000000000000) (h2:k2=3→s2≤6∧-1000000000000000 < n2∧n2 < 1000000000000000) :
  Amo.f k k1 n1 (s1:Int) t1 k2 n2 (s2:Int) t2=some (ordB k1 n1 (s1:Int) t1 k2 n2 (s2:Int) t2):=by
 obtain ⟨k,rfl⟩:∃ m,k=m+1:=⟨k - 1,by omega⟩
 unfold Amo.f ordB
 rw [A3b]
 simp only [Option.bind_some]
 by_cases e:k1=k2
 ·have hc:cmpI k1 k2=0:=by unfold cmpI;rw [if_neg (by omega),if_neg (by omega)]
  rw [if_pos hc,if_pos e]
  by_cases e1:k1=1
  ·rw [if_pos e1,if_pos (Or.inl e1)]
   simp only [Amo.j0]
   rw [if_pos (by simpa using e1),A3b];rfl
  ·rw [if_neg e1]
   simp only [Amo.j0]
   by_cases e2:k1=2
   ·rw [if_pos (by simpa using e2),if_pos (Or.inr e2),A3b];rfl
   ·rw [if_neg (by simpa using e2),if_neg (show ¬(k1=1∨k1=2) by omega)]
    by_cases e3:k1=3
    ·rw [if_pos e3,if_pos e3]
     obtain ⟨a1,a2,a3⟩:=h1 e3
     obtain ⟨b1,b2,b3⟩:=h2 (by omega)
     simp only [A3a k _ n1 s1 _ (by omega) a1 a2 a3,A3a k _ n2 s2 _ (by omega) b1 b2 b3,Option.bind_some,A3b]
     unfold mic
     have hp:=parts_order' (a:=n1*p10 (6 - s1)) (b:=n2*p10 (6 - s2)) 1000000 (by decide)
     rw [mic_ediv n1 s1 a1,mic_ediv n2 s2 b1,mic_emod n1 s1 a1,mic_emod n2 s2 b1] at hp
     simp only [Int.toNat_natCast]
     rw [← hp]
     by_cases hz:cmpI (n1 / p10 s1) (n2 / p10 s2)=0
     ·rw [if_pos hz,if_pos hz]
     ·rw [if_neg hz,if_neg hz]
    ·rw [if_neg e3,if_neg e3,A7g];rfl
 ·have hc:¬ cmpI k1 k2=0:=by
   unfold cmpI
   by_cases h:k1 < k2
   ·rw [if_pos h];decide
   ·rw [if_neg h,if_pos (by omega)];decide
  rw [if_neg hc,if_neg e]
end Go.Proofs.Ytglffgneikoeaaa.M
namespace Go.Proofs.Ytglffgneikoeaaa.M
open Go.RowKit Go.Proofs.YtglffgneikoeaaaW.PrintWords Go.Proofs.YtglffgneikoeaaaW.PrintLast Go.Proofs.YtglffgneikoeaaaW.PrintMore
attribute [local go_sem] max2_int min2_int max_two min_two max_three min_three max_four min_four
attribute [local go_sem high] own_gtr own_leq own_geq own_cell_set Option.map_some
set_option linter.unusedVariables false
set_option linter.unusedSimpArgs false
def inI (x:Int):Bool:=decide (-9223372036854775808≤x∧x≤9223372036854775807)
def I64 (x:Int):Prop:=-9223372036854775808≤x∧x≤9223372036854775807
def exactly (op a b:Int):Int:=if op=6 then a*b else if op=7 then a+b else a - b
theorem A7q (a b:Int) (ha:I64 a) (hb:I64 b):A2d.f a b=some (wrap64 (a+b),inI (a+b)):=by
 unfold A2d.f inI I64 at *
 by_cases h:((decide (a < 0)) != (decide (b < 0)))=true
 ·rw [if_pos h]
  simp only [bne_iff_ne,ne_eq,decide_eq_decide] at h
  rw [decide_eq_true (by omega)]
 ·rw [if_neg h]
  simp only [bne_iff_ne,ne_eq,decide_eq_decide] at h
  congr 2
  rw [Bool.eq_iff_iff];simp only [beq_iff_eq,decide_eq_true_eq,decide_eq_decide]
  unfold wrap64;omega
theorem A4a (a b:Int) (ha:I64 a) (hb:I64 b):Am1.f a b=some (wrap64 (a - b),inI (a - b)):=by
 unfold Am1.f inI I64 at *
 by_cases h:((decide (a < 0))==(decide (b < 0)))=true
 ·rw [if_pos h]
  simp only [beq_iff_eq,decide_eq_decide] at h
  rw [decide_eq_true (by omega)]
 ·rw [if_neg h]
  simp only [beq_iff_eq,decide_eq_decide] at h
  congr 2
  rw [Bool.eq_iff_iff];simp only [beq_iff_eq,decide_eq_true_eq,decide_eq_decide]
  unfold wrap64;omega
theorem A7p (a b:Int) (ha:I64 a) (hb:I64 b):A1b.f a b=some (wrap64 (a+b),inI (a+b)):=by
 unfold A1b.f inI I64 at *
 by_cases h:((decide (a≥0)) != (decide (b≥0)))=true
 ·rw [if_pos h]
  simp only [bne_iff_ne,ne_eq,decide_eq_decide] at h
  rw [decide_eq_true (by omega)]
 ·rw [if_neg h]
  simp only [bne_iff_ne,ne_eq,decide_eq_decide] at h
  congr 2
  rw [Bool.eq_iff_iff];simp only [beq_iff_eq,decide_eq_true_eq,decide_eq_decide]
  unfold wrap64;omega
theorem wrap64_inI (x:Int) (h:inI x=true):wrap64 x=x:=by
 unfold inI at h;simp only [decide_eq_true_eq] at h;exact wrap64_of h.1 h.2
theorem mul_back (a b:Int) (ha:I64 a) (hb:I64 b) (h0:b≠0) (hm:b≠-1):(wrap64 (Int.tdiv (wrap64 (a*b)) b)=a)↔inI (a*b)=true:=by
 unfold I64 at ha hb
 by_cases h1:b=1
 ·subst h1
  rw [Int.mul_one,wrap64_of ha.1 ha.2,Int.tdiv_one,wrap64_of ha.1 ha.2]
  unfold inI
  simp only [decide_eq_true_eq]
  exact ⟨fun _=>ha,fun _=>trivial⟩
 have hcr : -9223372036854775808≤wrap64 (a*b)∧wrap64 (a*b)≤9223372036854775807:=by unfold wrap64;omega
 have hq:∃ q:Int,wrap64 (a*b)=a*b - 18446744073709551616*q:=⟨(a*b+9223372036854775808) / 18446744073709551616,by unfold wrap64;omega⟩
 have hw:inI (a*b)=true→wrap64 (a*b)=a*b:=wrap64_inI _
 have hd:=Int.mul_tdiv_add_tmod (wrap64 (a*b)) b
 have hr1:((wrap64 (a*b)).tmod b).natAbs < b.natAbs:=by rw [Int.natAbs_tmod];exact Nat.mod_lt _ (by omega)
 have hn:((wrap64 (a*b)).tdiv b).natAbs≤4611686018427387904:=by
  rw [Int.natAbs_tdiv]
  have h1:(wrap64 (a*b)).natAbs≤9223372036854775808:=by omega
  exact Nat.le_trans (Nat.div_le_div_left (show 2≤b.natAbs by omega) (by decide)) (by have:=Nat.div_le_div_right (c:=2) h1;simpa using this)
 rw [wrap64_of (x:=(wrap64 (a*b)).tdiv b) (by omega) (by omega)]
 constructor
 ·intro h
  rw [h,Int.mul_comm b a] at hd
  obtain ⟨q,hq⟩:=hq
  unfold inI
  simp only [decide_eq_true_eq]
  generalize a*b=p at *
  generalize wrap64 p=c at *
  generalize c.tmod b=r at *
  omega
 ·intro h
  rw [hw h]
  exact Int.mul_tdiv_cancel _ h0
theorem A7h (a b:Int) (ha:I64 a) (hb:I64 b) (hm:b≠-1):A2c.f a b=some (wrap64 (a*b),inI (a*b)):=by
 unfold A2c.f
 by_cases a0:a=0
 ·rw [if_pos a0];subst a0;rw [Int.zero_mul];decide +kernel
 rw [if_neg a0]
 by_cases b0:b=0
 ·rw [if_pos b0];subst b0;rw [Int.mul_zero];decide +kernel
 rw [if_neg b0]
 congr 2
 rw [Bool.eq_iff_iff,← mul_back a b ha hb b0 hm,beq_iff_eq]
theorem A4e (op a b:Int) (ha:I64 a) (hb:I64 b):Amp.f op a b=some (wrap64 (exactly op a b),inI (exactly op a b)):=by
 unfold Amp.f exactly
 have h0:I64 0:=by unfold I64;omega
 by_cases h6:op=6
 ·rw [if_pos h6,if_pos h6]
  by_cases a1:a = -1
  ·rw [if_pos a1,A4a 0 b h0 hb];subst a1
   rw [show (-1:Int)*b=0 - b by omega];rfl
  ·rw [if_neg a1]
   by_cases b1:b = -1
   ·rw [if_pos b1,A4a 0 a h0 ha];subst b1
    rw [show a*(-1:Int)=0 - a by omega];rfl
   ·rw [if_neg b1,A7h a b ha hb b1];rfl
 ·rw [if_neg h6,if_neg h6]
  by_cases h7:op=7
  ·rw [if_pos h7,if_pos h7,A7q a b ha hb];rfl
  ·rw [if_neg h7,if_neg h7,A4a a b ha hb];rfl
theorem A44 (a b:Int) (ha:I64 a) (hb:I64 b):Am0.f a b=some (wrap64 (a*b),inI (a*b)):=by
 unfold Am0.f
 by_cases a0:a=0
 ·rw [if_pos a0];subst a0;rw [Int.zero_mul];decide +kernel
 rw [if_neg a0]
 by_cases b0:b=0
 ·rw [if_pos b0];subst b0;rw [Int.mul_zero];decide +kernel
 rw [if_neg b0]
 unfold I64 at ha hb
 by_cases b1:b = -1
 ·subst b1
  have e:a*(-1:Int) = -a:=by omega
  rw [e]
  by_cases hl:a = -9223372036854775808
  ·subst hl;decide +kernel
  ·have h1:wrap64 (-a) = -a:=wrap64_of (by omega) (by omega)
   have h2:(-a).tdiv (-1)=a:=by rw [← e];exact Int.mul_tdiv_cancel _ (by decide)
   have h3:inI (-a)=true:=by unfold inI;rw [decide_eq_true_eq];omega
   rw [h1,h2,wrap64_of ha.1 ha.2,if_pos rfl,h3]
   by_cases a1:a = -1
   ·rw [if_pos a1,if_neg (by decide),if_pos rfl];subst a1;rfl
   ·rw [if_neg a1,if_pos rfl]
    have:(a==-9223372036854775808)=false:=by simpa using hl
    rw [this];rfl
 ·have hb':=mul_back a b ha hb b0 b1
  by_cases h:wrap64 (Int.tdiv (wrap64 (a*b)) b)=a
  ·rw [if_pos h,hb'.1 h]
   by_cases a1:a = -1
   ·rw [if_pos a1]
    have hl:b≠-9223372036854775808:=by
     intro e;subst e;subst a1;exact absurd (hb'.1 h) (by decide)
    rw [if_neg hl,if_neg b1];rfl
   ·rw [if_neg a1,if_neg b1];rfl
  ·rw [if_neg h]
   have:inI (a*b)=false:=by
    cases hi:inI (a*b) with
    | false=>rfl
    | true=>exact absurd (hb'.2 hi) h
   rw [this]
def intRes (op a b:Int):Int × Int × Int × ByteArray × Int:=if inI (exactly op a b)=true then (2,exactly op a b,0,(⟨#[]⟩:ByteArray),0) else (0,0,0,(⟨#[]⟩:ByteArray),10)
theorem A7r (op a b:Int) (ha:I64 a) (hb:I64 b):A2a.f op a b=some (intRes op a b):=by
 unfold A2a.f intRes exactly
 by_cases h7:op=7
 ·rw [if_pos h7,if_neg (show ¬ op=6 by omega),if_pos h7,A7p a b ha hb]
  simp only [Option.bind_some]
  by_cases hi:inI (a+b)=true
  ·rw [if_pos hi,if_pos hi,wrap64_inI _ hi]
  ·rw [if_neg hi,if_neg hi]
 ·rw [if_neg h7]
  by_cases h6:op=6
  ·rw [if_pos h6,if_pos h6,A44 a b ha hb]
   simp only [Option.bind_some]
   by_cases hi:inI (a*b)=true
   ·rw [if_pos hi,if_pos hi,wrap64_inI _ hi]
   ·rw [if_neg hi,if_neg hi]
  ·rw [if_neg h6,if_neg h6,if_neg h7]
   unfold I64 at ha hb
   by_cases c1:((decide (a≥0))==(decide (b≥0)))=true
   ·rw [if_pos c1]
    simp only [beq_iff_eq,decide_eq_decide] at c1
    have hi:inI (a - b)=true:=by unfold inI;rw [decide_eq_true_eq];omega
    rw [if_pos hi,wrap64_inI _ hi]
   ·rw [if_neg c1]
    simp only [beq_iff_eq,decide_eq_decide] at c1
    by_cases c2:((decide ((wrap64 (a - b))≥0))==(decide (a≥0)))=true
    ·rw [if_pos c2]
     simp only [beq_iff_eq,decide_eq_decide] at c2
     have hi:inI (a - b)=true:=by unfold inI;rw [decide_eq_true_eq];unfold wrap64 at c2;omega
     rw [if_pos hi,wrap64_inI _ hi]
    ·rw [if_neg c2]
     simp only [beq_iff_eq,decide_eq_decide] at c2
     have hi:¬ inI (a - b)=true:=by unfold inI;rw [decide_eq_true_eq];unfold wrap64 at c2;omega
     rw [if_neg hi]
def decRes (n:Int) (s:Nat):Int × Int × Int × ByteArray × Int :=
 if -1000000000000000 < (red n s).1∧(red n s).1 < 1000000000000000∧(red n s).2≤6 then (3,(red n s).1,((red n s).2:Int),(⟨#[]⟩:ByteArray),0) else (0,0,0,(⟨#[]⟩:ByteArray),10)
theorem right_red (n:Int) (s:Nat):rightB 3 (red n s).1 ((red n s).2:Int) (⟨#[]⟩:ByteArray)=decide (-1000000000000000 < (red n s).1∧(red n s).1 < 1000000000000000∧(red n s).2≤6):=by
 unfold rightB
 rw [if_neg (by decide),if_neg (by decide),if_neg (by decide),if_pos rfl]
 have hn:noS (⟨#[]⟩:ByteArray)=true:=by decide +kernel
 rw [hn,Bool.and_true,decide_eq_decide]
 have h:=red_done s n
 generalize (red n s).1=a at *
 generalize (red n s).2=b at *
 omega
theorem decRes_tens (n:Int) (j s:Nat):decRes (n*p10 j) (s+j)=decRes n s:=by unfold decRes;rw [red_tens]
theorem A56 (k:Nat) (n:Int) (s:Nat) (b:Bool) (hk:s+45 < k) (hs:s≤1000) (h0:I64 n) :
  ((Ad9.f k 3 n (s:Int) (⟨#[]⟩:ByteArray)).bind fun bt106=>(if b=true then ((val_Right.f k bt106.1 bt106.2.1 bt106.2.2.1 bt106.2.2.2).bind fun t111=>(some (bt106.1,bt106.2.1,bt106.2.2.1,bt106.2.2.2,t111))) else (some (bt106.1,bt106.2.1,bt106.2.2.1,bt106.2.2.2,false))))=some (3,(red n s).1,((red n s).2:Int),(⟨#[]⟩:ByteArray),b&&decide (-1000000000000000 < (red n s).1∧(red n s).1 < 1000000000000000∧(red n s).2≤6)):=by
 rw [A7n k s n _ (by omega) (by omega) h0.1 h0.2]
 simp only [Option.bind_some]
 cases b with
 | false=>simp
 | true =>
  simp only [if_true]
  rw [val_Right_eq k _ _ _ _ (by omega),right_red]
  rfl
theorem A55 (k:Nat) (n:Int) (s:Nat) (hk:s+45 < k) (hs:s≤1000) (h0:I64 n) :
  ((federationref1_Norm.f k 3 n (s:Int) (⟨#[]⟩:ByteArray)).bind fun bt108=>((Amj.f k bt108.1 bt108.2.1 bt108.2.2.1 bt108.2.2.2).bind fun t113=>(if t113=true then (some (bt108.1,bt108.2.1,bt108.2.2.1,bt108.2.2.2,(0:Int))) else (some (0,0,0,(⟨#[]⟩:ByteArray),10)))))=some (decRes n s):=by
 rw [ref_Norm_eq k s n _ (by omega) (by omega) h0.1 h0.2]
 simp only [Option.bind_some]
 rw [A47 k _ _ _ _ (by omega),right_red]
 simp only [Option.bind_some,decide_eq_true_eq]
 unfold decRes
 split<;>rfl
theorem A5u (k:Nat) (w f:Int) (s:Nat) (hk:60 < k) (hs:s≤6) (hf0:0≤f) (hf1:f < p10 s) (hz:s=0∨f % 10≠0) (hw0 : -4000000000000000≤w) (hw1:w≤4000000000000000):Ad0.j3 k w f (s:Int)=some (decRes (w*p10 s+f) s):=by
 obtain ⟨k,rfl⟩:∃ m,k=m+2:=⟨k - 2,by omega⟩
 have hp:=p10_pos s
 have hp2:p10 s≤1000000:=by have:=p10_mono hs;rw [p10_six] at this;exact this
 have hs1:s=0∨p10 s % 10=0:=by
  cases s with
  | zero=>exact Or.inl rfl
  | succ t=>right;rw [p10_succ];omega
 have hwm:w*p10 s % 10=0∨s=0:=by
  rcases hs1 with h|h
  ·exact Or.inr h
  ·left;rw [Int.mul_emod,h];simp
 have hr:red (w*p10 s+f) s=(w*p10 s+f,s):=by
  apply red_same
  rcases hz with h|h
  ·exact Or.inl h
  ·rcases hwm with h2|h2
   ·right;omega
   ·exact Or.inl h2
 have hover:(1000000000000000≤w*p10 s+f∨w*p10 s+f≤-1000000000000000)→decRes (w*p10 s+f) s=(0,0,0,(⟨#[]⟩:ByteArray),10):=by
  intro h;unfold decRes;rw [hr,if_neg (by omega)]
 have hstop:∀ k',0 < k'→Ad0.j4 k' w f (s:Int) true=some (0,0,0,(⟨#[]⟩:ByteArray),10):=by
  intro k' hk'
  obtain ⟨k',rfl⟩:∃ m,k'=m+1:=⟨k' - 1,by omega⟩
  simp only [Ad0.j4,if_true]
 have ha1:1000000000000000≤w→1000000000000000≤w*p10 s:=fun h=>by
  have:=Int.mul_le_mul_of_nonneg_left (show 1≤p10 s by omega) (show 0≤w by omega);omega
 have ha2:w≤-1000000000000000→w*p10 s+f≤-1000000000000000:=fun h=>by
  have h3:=Int.mul_le_mul_of_nonneg_right (show w+1≤-999999999999999 by omega) (show 0≤p10 s by omega)
  rw [Int.add_mul,Int.one_mul] at h3
  have h5:p10 s=1→w*p10 s=w:=fun e=>by rw [e,Int.mul_one]
  by_cases h4:p10 s=1
  ·have:=h5 h4;omega
  ·have:2≤p10 s:=by omega
   omega
 simp only [Ad0.j3]
 by_cases c1:w≤-1000000000000000
 ·rw [if_pos c1,hstop _ (by omega),hover (Or.inr (ha2 c1))]
 rw [if_neg c1]
 by_cases c2:w≥1000000000000000
 ·rw [if_pos c2,hstop _ (by omega),hover (Or.inl (by have:=ha1 c2;omega))]
 rw [if_neg c2,A2l _ s (by omega) (by omega)]
 simp only [Option.bind_some]
 rw [if_neg (by omega)]
 have hd:Int.tdiv 1000000000000000 (p10 s)=1000000000000000 / p10 s:=Int.tdiv_eq_ediv_of_nonneg (by decide)
 have hd1:=Int.mul_ediv_add_emod 1000000000000000 (p10 s)
 have hd2:=Int.emod_lt_of_pos 1000000000000000 hp
 have hd3:=Int.emod_nonneg 1000000000000000 (show p10 s≠0 by omega)
 have hd4:0≤1000000000000000 / p10 s:=Int.ediv_nonneg (by decide) (by omega)
 have hd5:1000000000000000 / p10 s≤1000000000000000:=Int.ediv_le_self _ (by decide)
 rw [hd]
 generalize 1000000000000000 / p10 s=q at *
 rw [wrap64_of (x:=q) (by omega) (by omega),wrap64_of (x:=-q) (by omega) (by omega),wrap64_of (x:=-q - 1) (by omega) (by omega)]
 by_cases c3:w > q
 ·rw [if_pos c3,hstop _ (by omega)]
  have h3:=Int.mul_le_mul_of_nonneg_right (show q+1≤w by omega) (show 0≤p10 s by omega)
  rw [Int.add_mul,Int.one_mul,Int.mul_comm q] at h3
  rw [hover (Or.inl (by omega))]
 rw [if_neg c3,if_neg (show ¬ p10 s=0 by omega)]
 by_cases c4:w < -q - 1
 ·rw [decide_eq_true c4,hstop _ (by omega)]
  have h3:=Int.mul_le_mul_of_nonneg_right (show w≤-q - 2 by omega) (show 0≤p10 s by omega)
  rw [Int.sub_mul,Int.neg_mul,Int.mul_comm q] at h3
  rw [hover (Or.inr (by omega))]
 rw [decide_eq_false c4]
 simp only [Ad0.j4,Bool.false_eq_true,if_false]
 rw [A2l _ s (by omega) (by omega)]
 simp only [Option.bind_some]
 have h5:w*p10 s≤q*p10 s:=Int.mul_le_mul_of_nonneg_right (by omega) (by omega)
 have h6:(-q - 1)*p10 s≤w*p10 s:=Int.mul_le_mul_of_nonneg_right (by omega) (by omega)
 rw [Int.sub_mul,Int.neg_mul,Int.one_mul,Int.mul_comm q] at h6
 rw [Int.mul_comm q] at h5
 rw [wrap64_of (x:=w*p10 s) (by omega) (by omega),wrap64_of (x:=w*p10 s+f) (by omega) (by omega)]
 exact A55 k (w*p10 s+f) s (by omega) (by omega) ⟨by omega,by omega⟩
theorem A4k:∀ (s k:Nat) (w f:Int),70+s < k→s≤6→0≤f→f < p10 s→-4000000000000000≤w→w≤4000000000000000→Ad0.l2 k w f (s:Int)=some (decRes (w*p10 (red f s).2+(red f s).1) (red f s).2)
 | 0,k,w,f,hk,hs,h0,h1,hw0,hw1=>by
  obtain ⟨k,rfl⟩:∃ m,k=m+1:=⟨k - 1,by omega⟩
  simp only [Ad0.l2];rw [if_neg (by omega)]
  exact A5u k w f 0 (by omega) hs h0 h1 (Or.inl rfl) hw0 hw1
 | s+1,k,w,f,hk,hs,h0,h1,hw0,hw1=>by
  obtain ⟨k,rfl⟩:∃ m,k=m+1:=⟨k - 1,by omega⟩
  have hp:=p10_le s (by omega)
  have h1':=h1
  rw [p10_succ] at h1'
  simp only [Ad0.l2];rw [if_pos (by omega)]
  simp only [red]
  by_cases h:f % 10=0
  ·rw [if_pos ((tmod10 f).2 h),if_pos h,tdiv10 f h,wrap64_of (by omega) (by omega),wrap64_of (by omega) (by omega),show ((s+1:Nat):Int) - 1=(s:Int) by omega]
   exact A4k s k w (f / 10) (by omega) (by omega) (by omega) (by omega) hw0 hw1
  ·rw [if_neg (fun e=>h ((tmod10 f).1 e)),if_neg h]
   exact A5u k w f (s+1) (by omega) hs h0 h1 (Or.inr h) hw0 hw1
theorem decRes_parts (w f:Int):decRes (w*p10 (red f 6).2+(red f 6).1) (red f 6).2=decRes (w*1000000+f) 6:=by
 have hv:=red_value 6 f
 have hs:=red_scale 6 f
 have e:w*1000000+f=(w*p10 (red f 6).2+(red f 6).1)*p10 (6 - (red f 6).2):=by
  rw [Int.add_mul,hv,Int.mul_assoc,p10_six_sub _ hs]
 rw [e]
 have h6:(6:Nat)=(red f 6).2+(6 - (red f 6).2):=by omega
 have:=decRes_tens (w*p10 (red f 6).2+(red f 6).1) (6 - (red f 6).2) (red f 6).2
 rw [← h6] at this
 exact this.symm
theorem A5x (k:Nat) (w f:Int) (hk:90 < k) (h0:0≤f) (h1:f < 2000000) (hw0 : -3000000000000000≤w) (hw1:w≤3000000000000000):Ad0.l1 k w f=some (decRes (w*1000000+f) 6):=by
 obtain ⟨k,rfl⟩:∃ m,k=m+2:=⟨k - 2,by omega⟩
 have e6:∀ k',18 < k'→Ad7.f k' 6=some 1000000:=fun k' h=>by
  have:=A2l k' 6 h (by omega);rw [p10_six] at this;exact this
 simp only [Ad0.l1]
 rw [e6 _ (by omega)]
 simp only [Option.bind_some]
 by_cases c:f≥1000000
 ·rw [if_pos c,e6 _ (by omega)]
  simp only [Option.bind_some]
  rw [wrap64_of (x:=w+1) (by omega) (by omega),wrap64_of (x:=f - 1000000) (by omega) (by omega),if_neg (by omega)]
  have:=A4k 6 k (w+1) (f - 1000000) (by omega) (by omega) (by omega) (by rw [p10_six];omega) (by omega) (by omega)
  rw [show ((6:Nat):Int)=6 from rfl] at this
  rw [this,decRes_parts,show (w+1)*1000000+(f - 1000000)=w*1000000+f by omega]
 ·rw [if_neg c]
  have:=A4k 6 (k+1) w f (by omega) (by omega) (by omega) (by rw [p10_six];omega) (by omega) (by omega)
  rw [show ((6:Nat):Int)=6 from rfl] at this
  rw [this,decRes_parts]
theorem A5a (k:Nat) (w f:Int) (hk:95 < k) (h0 : -1000000 < f) (h1:f < 2000000) (hw0 : -2500000000000000≤w) (hw1:w≤2500000000000000):Ad0.f k w f=some (decRes (w*1000000+f) 6):=by
 obtain ⟨k,rfl⟩:∃ m,k=m+2:=⟨k - 2,by omega⟩
 have e6:∀ k',18 < k'→Ad7.f k' 6=some 1000000:=fun k' h=>by
  have:=A2l k' 6 h (by omega);rw [p10_six] at this;exact this
 unfold Ad0.f
 simp only [Ad0.l0]
 by_cases c:f < 0
 ·rw [if_pos c,e6 _ (by omega)]
  simp only [Option.bind_some]
  rw [wrap64_of (x:=w - 1) (by omega) (by omega),wrap64_of (x:=f+1000000) (by omega) (by omega),if_neg (by omega),A5x _ _ _ (by omega) (by omega) (by omega) (by omega) (by omega),show (w - 1)*1000000+(f+1000000)=w*1000000+f by omega]
 ·rw [if_neg c,A5x _ _ _ (by omega) (by omega) (by omega) (by omega) (by omega)]
end Go.Proofs.Ytglffgneikoeaaa.M
namespace Go.Proofs.Ytglffgneikoeaaa.M
open Go.RowKit Go.Proofs.YtglffgneikoeaaaW.PrintWords Go.Proofs.YtglffgneikoeaaaW.PrintLast Go.Proofs.YtglffgneikoeaaaW.PrintMore
attribute [local go_sem] max2_int min2_int max_two min_two max_three min_three max_four min_four
attribute [local go_sem high] own_gtr own_leq own_geq own_cell_set Option.map_some
set_option linter.unusedVariables false
set_option linter.unusedSimpArgs false
def Aej.f (a0_0:Int) (a0_1:Int) (a0_2:Int) (a0_3:ByteArray):Option (Bool):=if a0_0 = 0 then (some true) else (if a0_0 = 2 then (some true) else (some (a0_0 == 3)))
set_option maxHeartbeats 8000000 in
set_option maxRecDepth 100000 in
theorem Aej.calls (a0_0:Int) (a0_1:Int) (a0_2:Int) (a0_3:ByteArray) (r:Bool) (w:World) (h:Aej.f a0_0 a0_1 a0_2 a0_3 = some r) :
  Calls Try.prog 53 #[.agg #[.int .i64 a0_0, .int .i64 a0_1, .int .i64 a0_2, .string a0_3]] w fun e w'=>e = .returned (.bool r) ∧ Below w.heap.size w w':=by
 have hu28:=Try.underlying28
 have HB:=z_ (Below.refl w.heap.size w)
 have H:(if a0_0 = 0 then (some true) else (if a0_0 = 2 then (some true) else (some (a0_0 == 3)))) = some r:=h
 clear h
 by_cases c2:a0_0 = 0
 ·rw [if_pos c2] at H
  have c2b0:(a0_0 == 0) = true:=beq_iff_eq.mpr c2
  have c2b1:(a0_0 != 0) = false:=bne_eq_false_iff_eq.mpr c2
  clear c2
  obtain rfl:=Option.some.inj H
  go_enter Try.func53,Try.ntmps53
  go_wp2_with (first|((with_reducible refine gate_dst (N:=1) rfl ?_);refine box_event (by rfl) (N:=1) (by rfl) (cs:=#[.int .i64 a0_0, .int .i64 a0_1, .int .i64 a0_2, .string a0_3]) (t:=28) W3 ?_;intro gb101 hg w3 hbox hb;have BK101:=z_ (hbox);have GW101:=z_ ((W0:w.heap.size ≤ gb101));have GE101:=z_ ((W0:w.heap.size ≤ gb101));replace HB:=z_ (below_step W5 hb);clear hb hbox hg;obtain ⟨_,_,_,_,_,_,_,_⟩:=Rr BK101.out))
  go_ret
  exact ⟨by first|rfl|(simp [errW_none,errW_some] <;> rfl)|(simp [*,errW_none,errW_some] <;> rfl),by repeat first|(with_reducible first|exact HB.out|apply zA|apply zN|apply z1|refine zS ?_ GE101.out)|exact HB.out⟩
 ·rw [if_neg c2] at H
  have c2b0:(a0_0 == 0) = false:=beq_eq_false_iff_ne.mpr c2
  have c2b1:(a0_0 != 0) = true:=bne_iff_ne.mpr c2
  by_cases c5:a0_0 = 2
  ·rw [if_pos c5] at H
   have c5b0:(a0_0 == 2) = true:=beq_iff_eq.mpr c5
   have c5b1:(a0_0 != 2) = false:=bne_eq_false_iff_eq.mpr c5
   clear c5
   obtain rfl:=Option.some.inj H
   go_enter Try.func53,Try.ntmps53
   go_wp2_with (first|((with_reducible refine gate_dst (N:=1) rfl ?_);refine box_event (by rfl) (N:=1) (by rfl) (cs:=#[.int .i64 a0_0, .int .i64 a0_1, .int .i64 a0_2, .string a0_3]) (t:=28) W3 ?_;intro gb101 hg w6 hbox hb;have BK101:=z_ (hbox);have GW101:=z_ ((W0:w.heap.size ≤ gb101));have GE101:=z_ ((W0:w.heap.size ≤ gb101));replace HB:=z_ (below_step W5 hb);clear hb hbox hg;obtain ⟨_,_,_,_,_,_,_,_⟩:=Rr BK101.out))
   go_ret
   exact ⟨by first|rfl|(simp [errW_none,errW_some] <;> rfl)|(simp [*,errW_none,errW_some] <;> rfl),by repeat first|(with_reducible first|exact HB.out|apply zA|apply zN|apply z1|refine zS ?_ GE101.out)|exact HB.out⟩
  ·rw [if_neg c5] at H
   have c5b0:(a0_0 == 2) = false:=beq_eq_false_iff_ne.mpr c5
   have c5b1:(a0_0 != 2) = true:=bne_iff_ne.mpr c5
   obtain rfl:=Option.some.inj H
   go_enter Try.func53,Try.ntmps53
   go_wp2_with (first|((with_reducible refine gate_dst (N:=1) rfl ?_);refine box_event (by rfl) (N:=1) (by rfl) (cs:=#[.int .i64 a0_0, .int .i64 a0_1, .int .i64 a0_2, .string a0_3]) (t:=28) W3 ?_;intro gb101 hg w8 hbox hb;have BK101:=z_ (hbox);have GW101:=z_ ((W0:w.heap.size ≤ gb101));have GE101:=z_ ((W0:w.heap.size ≤ gb101));replace HB:=z_ (below_step W5 hb);clear hb hbox hg;obtain ⟨_,_,_,_,_,_,_,_⟩:=Rr BK101.out))
   go_ret
   exact ⟨by first|rfl|(simp [errW_none,errW_some] <;> rfl)|(simp [*,errW_none,errW_some] <;> rfl),by repeat first|(with_reducible first|exact HB.out|apply zA|apply zN|apply z1|refine zS ?_ GE101.out)|exact HB.out⟩
end Go.Proofs.Ytglffgneikoeaaa.M
