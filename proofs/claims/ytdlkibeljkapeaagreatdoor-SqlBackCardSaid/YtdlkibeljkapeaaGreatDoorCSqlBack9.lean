-- Written by drive.py and pack.py (programs of this proof's own) through the kit's printer; not trusted: Lean checks it.
import Derived.Test.YtdlkibeljkapeaaGreatDoorCSqlBack6
import Derived.Test.YtdlkibeljkapeaaGreatDoorCSqlBack8
import Derived.Test.YtdlkibeljkapeaaGreatDoorCSqlBack4
namespace Go.Proofs.YtdlkibeljkapeaaGreatDoor.B
open Go.RowKit Go.Proofs.YtdlkibeljkapeaaGreatDoorW.PrintWords Go.Proofs.YtdlkibeljkapeaaGreatDoorW.PrintLast Go.Proofs.YtdlkibeljkapeaaGreatDoorW.PrintMore
attribute [local go_sem] max2_int min2_int max_two min_two max_three min_three max_four min_four
attribute [local go_sem high] own_gtr own_leq own_geq own_cell_set Option.map_some
set_option linter.unusedVariables false
set_option linter.unusedSimpArgs false
def Lj.f (a0:Int):Option (Int):=(Js.f a0).bind fun t101=>(if t101 = true then (some ((a0 - 48) % 256)) else (some ((((a0 - 97) % 256) + 10) % 256)))
set_option maxHeartbeats 8000000 in
set_option maxRecDepth 100000 in
theorem Lj.calls (a0:Int) (r:Int) (w:World) (h:Lj.f a0 = some r) :
  Calls Tryz.prog 128 #[.int .u8 a0] w fun e w'=>e = .returned (.int .u8 r) ∧ Drawn0 w w':=by
 have H:((Js.f a0).bind fun t101=>(if t101 = true then (some ((a0 - 48) % 256)) else (some ((((a0 - 97) % 256) + 10) % 256)))) = some r:=h
 clear h
 replace H:=Option.bind_eq_some_iff.mp H
 obtain ⟨t101,A20,H⟩:=H
 replace H:(if t101 = true then (some ((a0 - 48) % 256)) else (some ((((a0 - 97) % 256) + 10) % 256))) = some r:=H
 have A2:=z_ A20
 clear A20
 by_cases c3:t101 = true
 ·subst c3
  have H1:(some ((a0 - 48) % 256)) = some r:=by rw [if_pos rfl] at H;exact H
  clear H
  have H:=H1
  clear H1
  obtain rfl:=Option.some.inj H
  go_enter Tryz.func128,Tryz.ntmps128
  go_wp2_with (first|((with_reducible refine gate_callee (f:=106) rfl ?_);refine goesL_ (some 4) rfl rfl Tryz.func106 (by kernel_rfl) rfl #[.int .u8 a0] rfl En ?_;(with_reducible refine (Js.calls a0 true _ A2.out).mono ?_);rintro e w' ⟨rfl,⟨nd,rfl⟩⟩;refine ⟨_,rfl,?_⟩))
  go_ret
  exact ⟨by first|rfl|(simp;done)|(simp [*];done),by repeat (first|exact Drawn0.refl _|apply Drawn0.step)⟩
 ·replace c3:=Bool.eq_false_iff.mpr c3
  subst c3
  have H1:(some ((((a0 - 97) % 256) + 10) % 256)) = some r:=by rw [if_neg (show ¬ (false = true) by decide)] at H;exact H
  clear H
  have H:=H1
  clear H1
  obtain rfl:=Option.some.inj H
  go_enter Tryz.func128,Tryz.ntmps128
  go_wp2_with (first|((with_reducible refine gate_callee (f:=106) rfl ?_);refine goesL_ (some 4) rfl rfl Tryz.func106 (by kernel_rfl) rfl #[.int .u8 a0] rfl En ?_;(with_reducible refine (Js.calls a0 false _ A2.out).mono ?_);rintro e w' ⟨rfl,⟨nd,rfl⟩⟩;refine ⟨_,rfl,?_⟩))
  go_ret
  exact ⟨by first|rfl|(simp;done)|(simp [*];done),by repeat (first|exact Drawn0.refl _|apply Drawn0.step)⟩
end Go.Proofs.YtdlkibeljkapeaaGreatDoor.B
namespace Go.Proofs.YtdlkibeljkapeaaGreatDoor.B
open Go.RowKit Go.Proofs.YtdlkibeljkapeaaGreatDoorW.PrintWords Go.Proofs.YtdlkibeljkapeaaGreatDoorW.PrintLast Go.Proofs.YtdlkibeljkapeaaGreatDoorW.PrintMore
attribute [local go_sem] max2_int min2_int max_two min_two max_three min_three max_four min_four
attribute [local go_sem high] own_gtr own_leq own_geq own_cell_set Option.map_some
set_option linter.unusedVariables false
set_option linter.unusedSimpArgs false
def To.f (k:Nat) (a0_0:Int) (a0_1:Int) (a0_2:ByteArray) (a0_3:Int) (a0_4:Int) (a0_5:Int) (a0_6:ByteArray) (a0_7:Int) (a1_0:Int) (a1_1:Int) (a1_2:Int) (a1_3:ByteArray):Option (Int × Int × ByteArray × Int × Int × Int × ByteArray × Int):=(val_Right.f k a1_0 a1_1 a1_2 a1_3).bind fun t104=>(if t104 = true then (some (4,a0_1,a0_2,a1_0,a1_1,a1_2,a1_3,a0_7)) else (some (4,a0_1,a0_2,a1_0,a1_1,a1_2,a1_3,11)))
set_option maxHeartbeats 8000000 in
set_option maxRecDepth 100000 in
theorem To.calls (k:Nat) (a0_0:Int) (a0_1:Int) (a0_2:ByteArray) (a0_3:Int) (a0_4:Int) (a0_5:Int) (a0_6:ByteArray) (a0_7:Int) (a1_0:Int) (a1_1:Int) (a1_2:Int) (a1_3:ByteArray) (r1:Int) (r2:Int) (r3:ByteArray) (r4:Int) (r5:Int) (r6:Int) (r7:ByteArray) (r8:Int) (w:World) (h:To.f k a0_0 a0_1 a0_2 a0_3 a0_4 a0_5 a0_6 a0_7 a1_0 a1_1 a1_2 a1_3 = some (r1,r2,r3,r4,r5,r6,r7,r8)) :
  Calls Tryz.prog 129 #[.agg #[.int .i64 a0_0, .int .i64 a0_1, .string a0_2, .int .i64 a0_3, .int .i64 a0_4, .int .i64 a0_5, .string a0_6, .int .i64 a0_7], .agg #[.int .i64 a1_0, .int .i64 a1_1, .int .i64 a1_2, .string a1_3]] w fun e w'=>e = .returned (.agg #[.int .i64 r1, .int .i64 r2, .string r3, .int .i64 r4, .int .i64 r5, .int .i64 r6, .string r7, .int .i64 r8]) ∧ Below w.heap.size w w':=by
 have hu85:=Tryz.underlying85
 have hu28:=Tryz.underlying28
 have HB:=z_ (Below.refl w.heap.size w)
 have H:((val_Right.f k a1_0 a1_1 a1_2 a1_3).bind fun t104=>(if t104 = true then (some (4,a0_1,a0_2,a1_0,a1_1,a1_2,a1_3,a0_7)) else (some (4,a0_1,a0_2,a1_0,a1_1,a1_2,a1_3,11)))) = some (r1,r2,r3,r4,r5,r6,r7,r8):=h
 clear h
 replace H:=Option.bind_eq_some_iff.mp H
 obtain ⟨t104,A30,H⟩:=H
 replace H:(if t104 = true then (some (4,a0_1,a0_2,a1_0,a1_1,a1_2,a1_3,a0_7)) else (some (4,a0_1,a0_2,a1_0,a1_1,a1_2,a1_3,11))) = some (r1,r2,r3,r4,r5,r6,r7,r8):=H
 have A3:=z_ A30
 clear A30
 by_cases c4:t104 = true
 ·subst c4
  have H1:(some (4,a0_1,a0_2,a1_0,a1_1,a1_2,a1_3,a0_7)) = some (r1,r2,r3,r4,r5,r6,r7,r8):=by rw [if_pos rfl] at H;exact H
  clear H
  have H:=H1
  clear H1
  simp only [Option.some.injEq,Prod.mk.injEq] at H
  obtain ⟨rfl,rfl,rfl,rfl,rfl,rfl,rfl,rfl⟩:=H
  go_enter Tryz.func129,Tryz.ntmps129
  try go_wp2_with (first|((with_reducible refine gate_dst (N:=2) rfl ?_);refine box_event (by rfl) (N:=2) (by rfl) (cs:=#[.int .i64 a0_0, .int .i64 a0_1, .string a0_2, .int .i64 a0_3, .int .i64 a0_4, .int .i64 a0_5, .string a0_6, .int .i64 a0_7]) (t:=85) Da ?_;intro gb101 hg w5 hbox hb;have BK101:=z_ (hbox);have GW101:=z_ ((Dh:w.heap.size ≤ gb101));have GE101:=z_ ((Dh:w.heap.size ≤ gb101));replace HB:=z_ (below_step Fe hb);clear hb hbox hg)|((with_reducible refine gate_dst (N:=3) rfl ?_);refine box_event (by rfl) (N:=3) (by rfl) (cs:=#[.int .i64 a1_0, .int .i64 a1_1, .int .i64 a1_2, .string a1_3]) (t:=28) Da ?_;intro gb102 hg w6 hbox hb;have BK102:=z_ (hbox);have GW102:=z_ ((Do:w.heap.size ≤ gb102));have GE102:=z_ ((Do:w.heap.size ≤ gb102));replace HB:=z_ (below_step Fg hb);have NB101_102:=z_ ((Y2:gb101 ≠ gb102));have NB102_101:=z_ ((Yy:gb102 ≠ gb101));replace BK101:=z_ (zk BK101.out hb);clear hb hbox hg)|((with_reducible refine gate_dst (N:=4) rfl ?_);refine box_event (by rfl) (N:=4) (by rfl) (cs:=#[.int .i64 0, .int .i64 0, .string (⟨#[]⟩:ByteArray), .int .i64 0, .int .i64 0, .int .i64 0, .string (⟨#[]⟩:ByteArray), .int .i64 0]) (t:=85) Da ?_;intro gb103 hg w7 hbox hb;have BK103:=z_ (hbox);have GW103:=z_ ((by rw [hg];exact (H4 Rl):w.heap.size ≤ gb103));have GE103:=z_ ((by rw [hg];exact (H4 Rl):w.heap.size ≤ gb103));replace HB:=z_ (below_step Rl hb);have NB101_103:=z_ ((Y2:gb101 ≠ gb103));have NB103_101:=z_ ((Yy:gb103 ≠ gb101));replace BK101:=z_ (zk BK101.out hb);have NB102_103:=z_ ((Al5:gb102 ≠ gb103));have NB103_102:=z_ ((Aln:gb103 ≠ gb102));replace BK102:=z_ (zk BK102.out hb);clear hb hbox hg))
  have n0_:=z_ (Ac BK101.out)
  have n1_:=z_ (Ac BK102.out)
  have n2_:=z_ (Ac BK103.out)
  have n3_:=z_ (z1 HB.out)
  clear BK101
  clear BK102
  clear BK103
  clear HB
  have BK101:=n0_
  have BK102:=n1_
  have BK103:=n2_
  have HB:=n3_
  clear n0_ n1_ n2_ n3_
  refine start_ (n:=5) (S:=fun w'=>w'.cell? ⟨gb102,0,none⟩ = some (.int .i64 a1_0) ∧ w'.cell? ⟨gb102,1,none⟩ = some (.int .i64 a1_1) ∧ w'.cell? ⟨gb102,2,none⟩ = some (.int .i64 a1_2) ∧ w'.cell? ⟨gb102,3,none⟩ = some (.string a1_3)) (ds:=[]) #[false,false,false,false,false] (by kernel_rfl) rfl rfl ⟨(Ba BK102.out 0).trans rfl,(Ba BK102.out 1).trans rfl,(Ba BK102.out 2).trans rfl,(Ba BK102.out 3).trans rfl⟩ (fun hHeld=>?_)
  generalize w7.drew = w8 at BK101 BK102 BK103 HB hHeld ⊢
  refine pure_ (i:=1) (N:=some 6) (v:=?_) (a':=?_) #[false,true,false,false,false] rfl rfl (by kernel_rfl) (fun _ _ _ h=>h) (Or.inl ⟨by rfl,?_⟩) ?_ ?_
  rotate_left
  ·intro w'
   go_simp
   with_reducible rfl
  rotate_left
  ·simp only [Act.put,List.setIfInBounds_toArray,List.set_cons_zero,List.set_cons_succ,i64_w,i32_w]
   rfl
  refine take_ (i:=0) (N:=some 5) (v:=?_) (a':=?_) #[true,true,false,false,false] rfl rfl (by kernel_rfl) (fun _ _ _ h=>h) (Or.inl ⟨by rfl,?_⟩) hHeld ?_ ?_
  rotate_left
  ·rintro w' ⟨s0,s1,s2,s3⟩
   go_simp
   with_reducible rfl
  rotate_left
  ·simp only [Act.put,List.setIfInBounds_toArray,List.set_cons_zero,List.set_cons_succ,i64_w,i32_w]
   rfl
  refine one_ (i:=2) (N:=none) #[true,true,true,false,false] rfl rfl (by kernel_rfl) (by decide) (fun K hK=>?_)
  have hs9:w8.cell? ⟨gb101,0,none⟩ = some (.int .i64 a0_0):=(Ba BK101.out 0).trans rfl
  have hfs9:=B2 BK101.out 0
  have hns9_1:=NB102_101.out
  have hns9_2:=NB103_101.out
  have hms9_1:=NB101_102.out
  have hms9_2:=NB101_103.out
  refine skip_ (w1:=?_) (by rfl) rfl ?_ ?_
  rotate_left
  ·go_simp
   rfl
  refine hK.out _ _ ⟨((cell_far (p:=⟨gb101,_,none⟩) NB102_101.out _).trans (hHeld.1)),((cell_far (p:=⟨gb101,_,none⟩) NB102_101.out _).trans (hHeld.2.1)),((cell_far (p:=⟨gb101,_,none⟩) NB102_101.out _).trans (hHeld.2.2.1)),((cell_far (p:=⟨gb101,_,none⟩) NB102_101.out _).trans (hHeld.2.2.2))⟩ (fun hHeld=>?_)
  clear hK K
  refine pure_ (i:=3) (N:=some 7) (v:=?_) (a':=?_) #[true,true,true,true,false] rfl rfl (by kernel_rfl) (fun _ _ _ h=>h) (Or.inl ⟨by rfl,?_⟩) ?_ ?_
  rotate_left
  ·intro w'
   go_simp
   with_reducible rfl
  rotate_left
  ·simp only [Act.put,List.setIfInBounds_toArray,List.set_cons_zero,List.set_cons_succ,i64_w,i32_w]
   rfl
  refine one_ (i:=4) (N:=none) #[true,true,true,true,true] rfl rfl (by kernel_rfl) (by decide) (fun K hK=>?_)
  have hs10:w8.cell? ⟨gb101,3,none⟩ = some (.int .i64 a0_3):=(Ba BK101.out 3).trans rfl
  have hfs10:=B2 BK101.out 3
  have hns10_1:=NB102_101.out
  have hns10_2:=NB103_101.out
  have hms10_1:=NB101_102.out
  have hms10_2:=NB101_103.out
  have hs11:w8.cell? ⟨gb101,4,none⟩ = some (.int .i64 a0_4):=(Ba BK101.out 4).trans rfl
  have hfs11:=B2 BK101.out 4
  have hns11_1:=NB102_101.out
  have hns11_2:=NB103_101.out
  have hms11_1:=NB101_102.out
  have hms11_2:=NB101_103.out
  have hs12:w8.cell? ⟨gb101,5,none⟩ = some (.int .i64 a0_5):=(Ba BK101.out 5).trans rfl
  have hfs12:=B2 BK101.out 5
  have hns12_1:=NB102_101.out
  have hns12_2:=NB103_101.out
  have hms12_1:=NB101_102.out
  have hms12_2:=NB101_103.out
  have hs13:w8.cell? ⟨gb101,6,none⟩ = some (.string a0_6):=(Ba BK101.out 6).trans rfl
  have hfs13:=B2 BK101.out 6
  have hns13_1:=NB102_101.out
  have hns13_2:=NB103_101.out
  have hms13_1:=NB101_102.out
  have hms13_2:=NB101_103.out
  refine skip_ (w1:=?_) (by rfl) rfl ?_ ?_
  rotate_left
  ·go_simp
   rfl
  refine hK.out _ _ ⟨((cell_far (p:=⟨gb101,_,none⟩) NB102_101.out _).trans (((cell_far (p:=⟨gb101,_,none⟩) NB102_101.out _).trans (((cell_far (p:=⟨gb101,_,none⟩) NB102_101.out _).trans (((cell_far (p:=⟨gb101,_,none⟩) NB102_101.out _).trans (hHeld.1)))))))),((cell_far (p:=⟨gb101,_,none⟩) NB102_101.out _).trans (((cell_far (p:=⟨gb101,_,none⟩) NB102_101.out _).trans (((cell_far (p:=⟨gb101,_,none⟩) NB102_101.out _).trans (((cell_far (p:=⟨gb101,_,none⟩) NB102_101.out _).trans (hHeld.2.1)))))))),((cell_far (p:=⟨gb101,_,none⟩) NB102_101.out _).trans (((cell_far (p:=⟨gb101,_,none⟩) NB102_101.out _).trans (((cell_far (p:=⟨gb101,_,none⟩) NB102_101.out _).trans (((cell_far (p:=⟨gb101,_,none⟩) NB102_101.out _).trans (hHeld.2.2.1)))))))),((cell_far (p:=⟨gb101,_,none⟩) NB102_101.out _).trans (((cell_far (p:=⟨gb101,_,none⟩) NB102_101.out _).trans (((cell_far (p:=⟨gb101,_,none⟩) NB102_101.out _).trans (((cell_far (p:=⟨gb101,_,none⟩) NB102_101.out _).trans (hHeld.2.2.2))))))))⟩ (fun hHeld=>?_)
  clear hK K
  refine done_ (by kernel_rfl) ?_
  have hnb14:=NB102_101.out
  have hnc14:=NB101_102.out
  have hnb15:=NB102_103.out
  have hnc15:=NB103_102.out
  obtain ⟨_,_,_,_,_,_,_,_⟩:=Bj BK102.out
  try go_wp2_with (first|((with_reducible refine gate_callee (f:=142) rfl ?_);refine goesL_ (some 9) rfl rfl Tryz.func142 (by kernel_rfl) rfl #[.agg #[.int .i64 a1_0, .int .i64 a1_1, .int .i64 a1_2, .string a1_3]] rfl En ?_;(with_reducible refine (val_Right.calls k a1_0 a1_1 a1_2 a1_3 true _ A3.out).mono ?_);rintro e w17 ⟨rfl,hb⟩;refine ⟨_,rfl,?_⟩;replace BK101:=z_ (La (g:=gb101) (o:=.cells #[.int .i64 4, .int .i64 a0_1, .string a0_2, .int .i64 a1_0, .int .i64 a1_1, .int .i64 a1_2, .string a1_3, .int .i64 a0_7] 85 (0,0)) zp9 hb);replace BK102:=z_ (La (g:=gb102) (o:=.cells #[.int .i64 a1_0, .int .i64 a1_1, .int .i64 a1_2, .string a1_3] 28 (0,0)) Aly hb);replace BK103:=z_ (La (g:=gb103) (o:=.cells #[.int .i64 0, .int .i64 0, .string (⟨#[]⟩:ByteArray), .int .i64 0, .int .i64 0, .int .i64 0, .string (⟨#[]⟩:ByteArray), .int .i64 0] 85 (0,0)) Alk hb);replace HB:=z_ (below_step Alq hb);(try clear hb);(try clear hb2);(try clear hk);(try clear hi);have hnb18:=NB101_103.out;have hnc18:=NB103_101.out;obtain ⟨_,_,_,_,_,_,_,_,_,_,_,_,_,_,_,_⟩:=M4 BK101.out;obtain ⟨_,_,_,_,_,_,_,_,_,_,_,_,_,_,_,_⟩:=M4 BK103.out))
  refine bodyPost_ret (results_cell_row rfl _ _ gb103 85 #[.int .i64 4, .int .i64 a0_1, .string a0_2, .int .i64 a1_0, .int .i64 a1_1, .int .i64 a1_2, .string a1_3, .int .i64 a0_7] (0,0) _ rfl (by (with_reducible repeat first|apply Ad|apply Ac|apply Ae);refine Az (cs:=#[.int .i64 4, .int .i64 a0_1, .string a0_2, .int .i64 a1_0, .int .i64 a1_1, .int .i64 a1_2, .string a1_3, .int .i64 0]) ?_ 7 _ rfl;(with_reducible repeat first|apply Ad|apply Ac|apply Ae);refine Az (cs:=#[.int .i64 4, .int .i64 a0_1, .string a0_2, .int .i64 a1_0, .int .i64 a1_1, .int .i64 a1_2, .string (⟨#[]⟩:ByteArray), .int .i64 0]) ?_ 6 _ rfl;(with_reducible repeat first|apply Ad|apply Ac|apply Ae);refine Az (cs:=#[.int .i64 4, .int .i64 a0_1, .string a0_2, .int .i64 a1_0, .int .i64 a1_1, .int .i64 0, .string (⟨#[]⟩:ByteArray), .int .i64 0]) ?_ 5 _ rfl;(with_reducible repeat first|apply Ad|apply Ac|apply Ae);refine Az (cs:=#[.int .i64 4, .int .i64 a0_1, .string a0_2, .int .i64 a1_0, .int .i64 0, .int .i64 0, .string (⟨#[]⟩:ByteArray), .int .i64 0]) ?_ 4 _ rfl;(with_reducible repeat first|apply Ad|apply Ac|apply Ae);refine Az (cs:=#[.int .i64 4, .int .i64 a0_1, .string a0_2, .int .i64 0, .int .i64 0, .int .i64 0, .string (⟨#[]⟩:ByteArray), .int .i64 0]) ?_ 3 _ rfl;(with_reducible repeat first|apply Ad|apply Ac|apply Ae);refine Az (cs:=#[.int .i64 4, .int .i64 a0_1, .string (⟨#[]⟩:ByteArray), .int .i64 0, .int .i64 0, .int .i64 0, .string (⟨#[]⟩:ByteArray), .int .i64 0]) ?_ 2 _ rfl;(with_reducible repeat first|apply Ad|apply Ac|apply Ae);refine Az (cs:=#[.int .i64 4, .int .i64 0, .string (⟨#[]⟩:ByteArray), .int .i64 0, .int .i64 0, .int .i64 0, .string (⟨#[]⟩:ByteArray), .int .i64 0]) ?_ 1 _ rfl;(with_reducible repeat first|apply Ad|apply Ac|apply Ae);refine Az (cs:=#[.int .i64 0, .int .i64 0, .string (⟨#[]⟩:ByteArray), .int .i64 0, .int .i64 0, .int .i64 0, .string (⟨#[]⟩:ByteArray), .int .i64 0]) ?_ 0 _ rfl;(with_reducible repeat first|apply Ad|apply Ac|apply Ae);exact BK103.out) Tryz.underlying85 rfl (by kernel_rfl)) rfl ?_
  exact ⟨by first|rfl|(simp [errW_none,errW_some] <;> rfl)|(simp [*,errW_none,errW_some] <;> rfl),by repeat first|(with_reducible first|exact HB.out|apply zA|apply zN|apply z1|refine zS ?_ GE101.out|refine zS ?_ GE102.out|refine zS ?_ GE103.out)|exact HB.out⟩
 ·replace c4:=Bool.eq_false_iff.mpr c4
  subst c4
  have H1:(some (4,a0_1,a0_2,a1_0,a1_1,a1_2,a1_3,11)) = some (r1,r2,r3,r4,r5,r6,r7,r8):=by rw [if_neg (show ¬ (false = true) by decide)] at H;exact H
  clear H
  have H:=H1
  clear H1
  simp only [Option.some.injEq,Prod.mk.injEq] at H
  obtain ⟨rfl,rfl,rfl,rfl,rfl,rfl,rfl,rfl⟩:=H
  go_enter Tryz.func129,Tryz.ntmps129
  try go_wp2_with (first|((with_reducible refine gate_dst (N:=2) rfl ?_);refine box_event (by rfl) (N:=2) (by rfl) (cs:=#[.int .i64 a0_0, .int .i64 a0_1, .string a0_2, .int .i64 a0_3, .int .i64 a0_4, .int .i64 a0_5, .string a0_6, .int .i64 a0_7]) (t:=85) Da ?_;intro gb101 hg w21 hbox hb;have BK101:=z_ (hbox);have GW101:=z_ ((Dh:w.heap.size ≤ gb101));have GE101:=z_ ((Dh:w.heap.size ≤ gb101));replace HB:=z_ (below_step Fe hb);clear hb hbox hg)|((with_reducible refine gate_dst (N:=3) rfl ?_);refine box_event (by rfl) (N:=3) (by rfl) (cs:=#[.int .i64 a1_0, .int .i64 a1_1, .int .i64 a1_2, .string a1_3]) (t:=28) Da ?_;intro gb102 hg w22 hbox hb;have BK102:=z_ (hbox);have GW102:=z_ ((Do:w.heap.size ≤ gb102));have GE102:=z_ ((Do:w.heap.size ≤ gb102));replace HB:=z_ (below_step Fg hb);have NB101_102:=z_ ((Y2:gb101 ≠ gb102));have NB102_101:=z_ ((Yy:gb102 ≠ gb101));replace BK101:=z_ (zk BK101.out hb);clear hb hbox hg)|((with_reducible refine gate_dst (N:=4) rfl ?_);refine box_event (by rfl) (N:=4) (by rfl) (cs:=#[.int .i64 0, .int .i64 0, .string (⟨#[]⟩:ByteArray), .int .i64 0, .int .i64 0, .int .i64 0, .string (⟨#[]⟩:ByteArray), .int .i64 0]) (t:=85) Da ?_;intro gb103 hg w23 hbox hb;have BK103:=z_ (hbox);have GW103:=z_ ((by rw [hg];exact (H4 Rl):w.heap.size ≤ gb103));have GE103:=z_ ((by rw [hg];exact (H4 Rl):w.heap.size ≤ gb103));replace HB:=z_ (below_step Rl hb);have NB101_103:=z_ ((Y2:gb101 ≠ gb103));have NB103_101:=z_ ((Yy:gb103 ≠ gb101));replace BK101:=z_ (zk BK101.out hb);have NB102_103:=z_ ((Al5:gb102 ≠ gb103));have NB103_102:=z_ ((Aln:gb103 ≠ gb102));replace BK102:=z_ (zk BK102.out hb);clear hb hbox hg))
  have n0_:=z_ (Ac BK101.out)
  have n1_:=z_ (Ac BK102.out)
  have n2_:=z_ (Ac BK103.out)
  have n3_:=z_ (z1 HB.out)
  clear BK101
  clear BK102
  clear BK103
  clear HB
  have BK101:=n0_
  have BK102:=n1_
  have BK103:=n2_
  have HB:=n3_
  clear n0_ n1_ n2_ n3_
  refine start_ (n:=5) (S:=fun w'=>w'.cell? ⟨gb102,0,none⟩ = some (.int .i64 a1_0) ∧ w'.cell? ⟨gb102,1,none⟩ = some (.int .i64 a1_1) ∧ w'.cell? ⟨gb102,2,none⟩ = some (.int .i64 a1_2) ∧ w'.cell? ⟨gb102,3,none⟩ = some (.string a1_3)) (ds:=[]) #[false,false,false,false,false] (by kernel_rfl) rfl rfl ⟨(Ba BK102.out 0).trans rfl,(Ba BK102.out 1).trans rfl,(Ba BK102.out 2).trans rfl,(Ba BK102.out 3).trans rfl⟩ (fun hHeld=>?_)
  generalize w23.drew = w24 at BK101 BK102 BK103 HB hHeld ⊢
  refine pure_ (i:=1) (N:=some 6) (v:=?_) (a':=?_) #[false,true,false,false,false] rfl rfl (by kernel_rfl) (fun _ _ _ h=>h) (Or.inl ⟨by rfl,?_⟩) ?_ ?_
  rotate_left
  ·intro w'
   go_simp
   with_reducible rfl
  rotate_left
  ·simp only [Act.put,List.setIfInBounds_toArray,List.set_cons_zero,List.set_cons_succ,i64_w,i32_w]
   rfl
  refine take_ (i:=0) (N:=some 5) (v:=?_) (a':=?_) #[true,true,false,false,false] rfl rfl (by kernel_rfl) (fun _ _ _ h=>h) (Or.inl ⟨by rfl,?_⟩) hHeld ?_ ?_
  rotate_left
  ·rintro w' ⟨s0,s1,s2,s3⟩
   go_simp
   with_reducible rfl
  rotate_left
  ·simp only [Act.put,List.setIfInBounds_toArray,List.set_cons_zero,List.set_cons_succ,i64_w,i32_w]
   rfl
  refine one_ (i:=2) (N:=none) #[true,true,true,false,false] rfl rfl (by kernel_rfl) (by decide) (fun K hK=>?_)
  have hs25:w24.cell? ⟨gb101,0,none⟩ = some (.int .i64 a0_0):=(Ba BK101.out 0).trans rfl
  have hfs25:=B2 BK101.out 0
  have hns25_1:=NB102_101.out
  have hns25_2:=NB103_101.out
  have hms25_1:=NB101_102.out
  have hms25_2:=NB101_103.out
  refine skip_ (w1:=?_) (by rfl) rfl ?_ ?_
  rotate_left
  ·go_simp
   rfl
  refine hK.out _ _ ⟨((cell_far (p:=⟨gb101,_,none⟩) NB102_101.out _).trans (hHeld.1)),((cell_far (p:=⟨gb101,_,none⟩) NB102_101.out _).trans (hHeld.2.1)),((cell_far (p:=⟨gb101,_,none⟩) NB102_101.out _).trans (hHeld.2.2.1)),((cell_far (p:=⟨gb101,_,none⟩) NB102_101.out _).trans (hHeld.2.2.2))⟩ (fun hHeld=>?_)
  clear hK K
  refine pure_ (i:=3) (N:=some 7) (v:=?_) (a':=?_) #[true,true,true,true,false] rfl rfl (by kernel_rfl) (fun _ _ _ h=>h) (Or.inl ⟨by rfl,?_⟩) ?_ ?_
  rotate_left
  ·intro w'
   go_simp
   with_reducible rfl
  rotate_left
  ·simp only [Act.put,List.setIfInBounds_toArray,List.set_cons_zero,List.set_cons_succ,i64_w,i32_w]
   rfl
  refine one_ (i:=4) (N:=none) #[true,true,true,true,true] rfl rfl (by kernel_rfl) (by decide) (fun K hK=>?_)
  have hs26:w24.cell? ⟨gb101,3,none⟩ = some (.int .i64 a0_3):=(Ba BK101.out 3).trans rfl
  have hfs26:=B2 BK101.out 3
  have hns26_1:=NB102_101.out
  have hns26_2:=NB103_101.out
  have hms26_1:=NB101_102.out
  have hms26_2:=NB101_103.out
  have hs27:w24.cell? ⟨gb101,4,none⟩ = some (.int .i64 a0_4):=(Ba BK101.out 4).trans rfl
  have hfs27:=B2 BK101.out 4
  have hns27_1:=NB102_101.out
  have hns27_2:=NB103_101.out
  have hms27_1:=NB101_102.out
  have hms27_2:=NB101_103.out
  have hs28:w24.cell? ⟨gb101,5,none⟩ = some (.int .i64 a0_5):=(Ba BK101.out 5).trans rfl
  have hfs28:=B2 BK101.out 5
  have hns28_1:=NB102_101.out
  have hns28_2:=NB103_101.out
  have hms28_1:=NB101_102.out
  have hms28_2:=NB101_103.out
  have hs29:w24.cell? ⟨gb101,6,none⟩ = some (.string a0_6):=(Ba BK101.out 6).trans rfl
  have hfs29:=B2 BK101.out 6
  have hns29_1:=NB102_101.out
  have hns29_2:=NB103_101.out
  have hms29_1:=NB101_102.out
  have hms29_2:=NB101_103.out
  refine skip_ (w1:=?_) (by rfl) rfl ?_ ?_
  rotate_left
  ·go_simp
   rfl
  refine hK.out _ _ ⟨((cell_far (p:=⟨gb101,_,none⟩) NB102_101.out _).trans (((cell_far (p:=⟨gb101,_,none⟩) NB102_101.out _).trans (((cell_far (p:=⟨gb101,_,none⟩) NB102_101.out _).trans (((cell_far (p:=⟨gb101,_,none⟩) NB102_101.out _).trans (hHeld.1)))))))),((cell_far (p:=⟨gb101,_,none⟩) NB102_101.out _).trans (((cell_far (p:=⟨gb101,_,none⟩) NB102_101.out _).trans (((cell_far (p:=⟨gb101,_,none⟩) NB102_101.out _).trans (((cell_far (p:=⟨gb101,_,none⟩) NB102_101.out _).trans (hHeld.2.1)))))))),((cell_far (p:=⟨gb101,_,none⟩) NB102_101.out _).trans (((cell_far (p:=⟨gb101,_,none⟩) NB102_101.out _).trans (((cell_far (p:=⟨gb101,_,none⟩) NB102_101.out _).trans (((cell_far (p:=⟨gb101,_,none⟩) NB102_101.out _).trans (hHeld.2.2.1)))))))),((cell_far (p:=⟨gb101,_,none⟩) NB102_101.out _).trans (((cell_far (p:=⟨gb101,_,none⟩) NB102_101.out _).trans (((cell_far (p:=⟨gb101,_,none⟩) NB102_101.out _).trans (((cell_far (p:=⟨gb101,_,none⟩) NB102_101.out _).trans (hHeld.2.2.2))))))))⟩ (fun hHeld=>?_)
  clear hK K
  refine done_ (by kernel_rfl) ?_
  have hnb30:=NB102_101.out
  have hnc30:=NB101_102.out
  have hnb31:=NB102_103.out
  have hnc31:=NB103_102.out
  obtain ⟨_,_,_,_,_,_,_,_⟩:=Bj BK102.out
  try go_wp2_with (first|((with_reducible refine gate_callee (f:=142) rfl ?_);refine goesL_ (some 9) rfl rfl Tryz.func142 (by kernel_rfl) rfl #[.agg #[.int .i64 a1_0, .int .i64 a1_1, .int .i64 a1_2, .string a1_3]] rfl En ?_;(with_reducible refine (val_Right.calls k a1_0 a1_1 a1_2 a1_3 false _ A3.out).mono ?_);rintro e w33 ⟨rfl,hb⟩;refine ⟨_,rfl,?_⟩;replace BK101:=z_ (La (g:=gb101) (o:=.cells #[.int .i64 4, .int .i64 a0_1, .string a0_2, .int .i64 a1_0, .int .i64 a1_1, .int .i64 a1_2, .string a1_3, .int .i64 a0_7] 85 (0,0)) zp9 hb);replace BK102:=z_ (La (g:=gb102) (o:=.cells #[.int .i64 a1_0, .int .i64 a1_1, .int .i64 a1_2, .string a1_3] 28 (0,0)) Aly hb);replace BK103:=z_ (La (g:=gb103) (o:=.cells #[.int .i64 0, .int .i64 0, .string (⟨#[]⟩:ByteArray), .int .i64 0, .int .i64 0, .int .i64 0, .string (⟨#[]⟩:ByteArray), .int .i64 0] 85 (0,0)) Alk hb);replace HB:=z_ (below_step Alq hb);(try clear hb);(try clear hb2);(try clear hk);(try clear hi);have hnb34:=NB101_103.out;have hnc34:=NB103_101.out;obtain ⟨_,_,_,_,_,_,_,_,_,_,_,_,_,_,_,_⟩:=M4 BK101.out;obtain ⟨_,_,_,_,_,_,_,_,_,_,_,_,_,_,_,_⟩:=M4 BK103.out))
  refine bodyPost_ret (results_cell_row rfl _ _ gb103 85 #[.int .i64 4, .int .i64 a0_1, .string a0_2, .int .i64 a1_0, .int .i64 a1_1, .int .i64 a1_2, .string a1_3, .int .i64 11] (0,0) _ rfl (by (with_reducible repeat first|apply Ad|apply Ac|apply Ae);refine Az (cs:=#[.int .i64 4, .int .i64 a0_1, .string a0_2, .int .i64 a1_0, .int .i64 a1_1, .int .i64 a1_2, .string a1_3, .int .i64 0]) ?_ 7 _ rfl;(with_reducible repeat first|apply Ad|apply Ac|apply Ae);refine Az (cs:=#[.int .i64 4, .int .i64 a0_1, .string a0_2, .int .i64 a1_0, .int .i64 a1_1, .int .i64 a1_2, .string (⟨#[]⟩:ByteArray), .int .i64 0]) ?_ 6 _ rfl;(with_reducible repeat first|apply Ad|apply Ac|apply Ae);refine Az (cs:=#[.int .i64 4, .int .i64 a0_1, .string a0_2, .int .i64 a1_0, .int .i64 a1_1, .int .i64 0, .string (⟨#[]⟩:ByteArray), .int .i64 0]) ?_ 5 _ rfl;(with_reducible repeat first|apply Ad|apply Ac|apply Ae);refine Az (cs:=#[.int .i64 4, .int .i64 a0_1, .string a0_2, .int .i64 a1_0, .int .i64 0, .int .i64 0, .string (⟨#[]⟩:ByteArray), .int .i64 0]) ?_ 4 _ rfl;(with_reducible repeat first|apply Ad|apply Ac|apply Ae);refine Az (cs:=#[.int .i64 4, .int .i64 a0_1, .string a0_2, .int .i64 0, .int .i64 0, .int .i64 0, .string (⟨#[]⟩:ByteArray), .int .i64 0]) ?_ 3 _ rfl;(with_reducible repeat first|apply Ad|apply Ac|apply Ae);refine Az (cs:=#[.int .i64 4, .int .i64 a0_1, .string (⟨#[]⟩:ByteArray), .int .i64 0, .int .i64 0, .int .i64 0, .string (⟨#[]⟩:ByteArray), .int .i64 0]) ?_ 2 _ rfl;(with_reducible repeat first|apply Ad|apply Ac|apply Ae);refine Az (cs:=#[.int .i64 4, .int .i64 0, .string (⟨#[]⟩:ByteArray), .int .i64 0, .int .i64 0, .int .i64 0, .string (⟨#[]⟩:ByteArray), .int .i64 0]) ?_ 1 _ rfl;(with_reducible repeat first|apply Ad|apply Ac|apply Ae);refine Az (cs:=#[.int .i64 0, .int .i64 0, .string (⟨#[]⟩:ByteArray), .int .i64 0, .int .i64 0, .int .i64 0, .string (⟨#[]⟩:ByteArray), .int .i64 0]) ?_ 0 _ rfl;(with_reducible repeat first|apply Ad|apply Ac|apply Ae);refine Bd ?_ NB103_101.out _;(with_reducible repeat first|apply Ad|apply Ac|apply Ae);exact BK103.out) Tryz.underlying85 rfl (by kernel_rfl)) rfl ?_
  exact ⟨by first|rfl|(simp [errW_none,errW_some] <;> rfl)|(simp [*,errW_none,errW_some] <;> rfl),by repeat first|(with_reducible first|exact HB.out|apply zA|apply zN|apply z1|refine zS ?_ GE101.out|refine zS ?_ GE102.out|refine zS ?_ GE103.out)|exact HB.out⟩
end Go.Proofs.YtdlkibeljkapeaaGreatDoor.B
namespace Go.Proofs.YtdlkibeljkapeaaGreatDoor.B
open Go.RowKit Go.Proofs.YtdlkibeljkapeaaGreatDoorW.PrintWords Go.Proofs.YtdlkibeljkapeaaGreatDoorW.PrintLast Go.Proofs.YtdlkibeljkapeaaGreatDoorW.PrintMore
attribute [local go_sem] max2_int min2_int max_two min_two max_three min_three max_four min_four
attribute [local go_sem high] own_gtr own_leq own_geq own_cell_set Option.map_some
set_option linter.unusedVariables false
set_option linter.unusedSimpArgs false
def Kx.f (a0:Int):Option (Bool):=(Js.f a0).bind fun t101=>(if t101 = true then (some true) else (if a0 ≥ 97 then (some (decide (a0 ≤ 102))) else (some false)))
set_option maxHeartbeats 8000000 in
set_option maxRecDepth 100000 in
theorem Kx.calls (a0:Int) (r:Bool) (w:World) (h:Kx.f a0 = some r) :
  Calls Tryz.prog 127 #[.int .u8 a0] w fun e w'=>e = .returned (.bool r) ∧ Drawn0 w w':=by
 have H:((Js.f a0).bind fun t101=>(if t101 = true then (some true) else (if a0 ≥ 97 then (some (decide (a0 ≤ 102))) else (some false)))) = some r:=h
 clear h
 replace H:=Option.bind_eq_some_iff.mp H
 obtain ⟨t101,A20,H⟩:=H
 replace H:(if t101 = true then (some true) else (if a0 ≥ 97 then (some (decide (a0 ≤ 102))) else (some false))) = some r:=H
 have A2:=z_ A20
 clear A20
 by_cases c3:t101 = true
 ·subst c3
  have H1:(some true) = some r:=by rw [if_pos rfl] at H;exact H
  clear H
  have H:=H1
  clear H1
  obtain rfl:=Option.some.inj H
  go_enter Tryz.func127,Tryz.ntmps127
  go_wp2_with (first|((with_reducible refine gate_callee (f:=106) rfl ?_);refine goesL_ (some 4) rfl rfl Tryz.func106 (by kernel_rfl) rfl #[.int .u8 a0] rfl En ?_;(with_reducible refine (Js.calls a0 true _ A2.out).mono ?_);rintro e w' ⟨rfl,⟨nd,rfl⟩⟩;refine ⟨_,rfl,?_⟩))
  go_ret
  exact ⟨by first|rfl|(simp;done)|(simp [*];done),by repeat (first|exact Drawn0.refl _|apply Drawn0.step)⟩
 ·replace c3:=Bool.eq_false_iff.mpr c3
  subst c3
  have H1:(if a0 ≥ 97 then (some (decide (a0 ≤ 102))) else (some false)) = some r:=by rw [if_neg (show ¬ (false = true) by decide)] at H;exact H
  clear H
  have H:=H1
  clear H1
  by_cases c4:a0 ≥ 97
  ·rw [if_pos c4] at H
   have c4b0:decide (97 ≤ a0) = true:=decide_eq_true c4
   clear c4
   obtain rfl:=Option.some.inj H
   go_enter Tryz.func127,Tryz.ntmps127
   go_wp2_with (first|((with_reducible refine gate_callee (f:=106) rfl ?_);refine goesL_ (some 4) rfl rfl Tryz.func106 (by kernel_rfl) rfl #[.int .u8 a0] rfl En ?_;(with_reducible refine (Js.calls a0 false _ A2.out).mono ?_);rintro e w' ⟨rfl,⟨nd,rfl⟩⟩;refine ⟨_,rfl,?_⟩))
   go_ret
   exact ⟨by first|rfl|(simp;done)|(simp [*];done),by repeat (first|exact Drawn0.refl _|apply Drawn0.step)⟩
  ·rw [if_neg c4] at H
   have c4b0:decide (97 ≤ a0) = false:=decide_eq_false c4
   clear c4
   obtain rfl:=Option.some.inj H
   go_enter Tryz.func127,Tryz.ntmps127
   go_wp2_with (first|((with_reducible refine gate_callee (f:=106) rfl ?_);refine goesL_ (some 4) rfl rfl Tryz.func106 (by kernel_rfl) rfl #[.int .u8 a0] rfl En ?_;(with_reducible refine (Js.calls a0 false _ A2.out).mono ?_);rintro e w' ⟨rfl,⟨nd,rfl⟩⟩;refine ⟨_,rfl,?_⟩))
   go_ret
   exact ⟨by first|rfl|(simp;done)|(simp [*];done),by repeat (first|exact Drawn0.refl _|apply Drawn0.step)⟩
end Go.Proofs.YtdlkibeljkapeaaGreatDoor.B
namespace Go.Proofs.YtdlkibeljkapeaaGreatDoor.B
open Go.RowKit Go.Proofs.YtdlkibeljkapeaaGreatDoorW.PrintWords Go.Proofs.YtdlkibeljkapeaaGreatDoorW.PrintLast Go.Proofs.YtdlkibeljkapeaaGreatDoorW.PrintMore
attribute [local go_sem] max2_int min2_int max_two min_two max_three min_three max_four min_four
attribute [local go_sem high] own_gtr own_leq own_geq own_cell_set Option.map_some
set_option linter.unusedVariables false
set_option linter.unusedSimpArgs false
def G1.l0:Nat → ByteArray → Int → Option (Int)
 | 0,_,_=>none
 | k + 1,x0,x1=>if x1 < (x0.size:Int) then (if 0 ≤ x1 then ((Kx.f (bt x0 x1)).bind fun t101=>(if t101 = true then (G1.l0 k x0 (wrap64 (x1 + 1))) else (some x1))) else (none)) else (some x1)
def G1.f (k:Nat) (a0:ByteArray) (a1:Int)  : Option (Int):=G1.l0 k a0 a1
set_option maxHeartbeats 8000000 in
set_option maxRecDepth 100000 in
theorem G1.calls (k:Nat) (a0:ByteArray) (a1:Int)  (r:Int) (w:World) (h:G1.f k a0 a1 = some r) :
  Calls Tryz.prog 101 #[.string a0, .int .i64 a1, .func (.func 127) #[] #[]] w fun e w'=>e = .returned (.int .i64 r) ∧ Drawn0 w w':=by
 have H:(G1.l0 k a0 a1) = some r:=h
 clear h
 have H':=z_ H
 clear H
 go_enter Tryz.func101,Tryz.ntmps101
 go_wp2
 go_loopg [1] k (fun kq v1 w'=>∃ (x1_1:Int),v1 = .int .i64 x1_1 ∧ Aside0 (G1.l0 kq a0 x1_1 = some r) ∧ Aside0 (kq ≤ k) ∧ Drawn0 w w')
 case atStart=>exact ⟨(a1),Hv,H',⟨Nat.le_refl _⟩,by repeat (first|exact Drawn0.refl _|apply Drawn0.step)⟩
 case round =>
  clear H'
  try clear p2
  obtain ⟨x1_1,rfl,HA,HK1,⟨m1,rfl⟩⟩:=hrel
  cases gk with
  | zero=>exact absurd HA.out (by simp [G1.l0])
  | succ k1 =>
   have H:=HA.out
   clear HA
   simp only [G1.l0] at H
   by_cases c4:x1_1 < (a0.size:Int)
   ·rw [if_pos c4] at H
    have c4b0:decide (x1_1 < (a0.size:Int)) = true:=decide_eq_true c4
    clear c4
    by_cases c5:0 ≤ x1_1
    ·rw [if_pos c5] at H
     have c5b0:decide (0 ≤ x1_1) = true:=decide_eq_true c5
     clear c5
     replace H:=Option.bind_eq_some_iff.mp H
     obtain ⟨t101,A70,H⟩:=H
     replace H:(if t101 = true then (G1.l0 k1 a0 (wrap64 (x1_1 + 1))) else (some x1_1)) = some r:=H
     have A7:=z_ A70
     clear A70
     by_cases c8:t101 = true
     ·subst c8
      have H1:(G1.l0 k1 a0 (wrap64 (x1_1 + 1))) = some r:=by rw [if_pos rfl] at H;exact H
      clear H
      have H:=H1
      clear H1
      have H':=z_ H
      clear H
      have p6:0 ≤ (x1_1:Int):=of_decide_eq_true Di
      have q6:x1_1 < (a0.size:Int):=of_decide_eq_true Di
      have hx6:=bt_at a0 x1_1
      replace p6:=eq_true p6
      replace q6:=eq_true q6
      go_wp2_with (first|(go_at_call 127;(with_reducible refine (Kx.calls (bt a0 x1_1) true _ A7.out).mono ?_);rintro e w' ⟨rfl,⟨nd,rfl⟩⟩))
      go_roundg k1
      case measure=>have:=HK1.out;omega
      case rel=>exact ⟨(wrap64 (x1_1 + 1)),Hv,H',⟨by have:=HK1.out;omega⟩,by repeat (first|exact Drawn0.refl _|apply Drawn0.step)⟩
     ·replace c8:=Bool.eq_false_iff.mpr c8
      subst c8
      have H1:(some x1_1) = some r:=by rw [if_neg (show ¬ (false = true) by decide)] at H;exact H
      clear H
      have H:=H1
      clear H1
      obtain rfl:=Option.some.inj H
      have p6:0 ≤ (x1_1:Int):=of_decide_eq_true Di
      have q6:x1_1 < (a0.size:Int):=of_decide_eq_true Di
      have hx6:=bt_at a0 x1_1
      replace p6:=eq_true p6
      replace q6:=eq_true q6
      go_wp2_with (first|(go_at_call 127;(with_reducible refine (Kx.calls (bt a0 x1_1) false _ A7.out).mono ?_);rintro e w' ⟨rfl,⟨nd,rfl⟩⟩))
      go_ret
      exact ⟨by first|rfl|(simp;done)|(simp [*];done),by repeat (first|exact Drawn0.refl _|apply Drawn0.step)⟩
    ·rw [if_neg c5] at H
     exact absurd H (by simp)
   ·rw [if_neg c4] at H
    have c4b0:decide (x1_1 < (a0.size:Int)) = false:=decide_eq_false c4
    clear c4
    obtain rfl:=Option.some.inj H
    go_wp2
    go_ret
    exact ⟨by first|rfl|(simp;done)|(simp [*];done),by repeat (first|exact Drawn0.refl _|apply Drawn0.step)⟩
end Go.Proofs.YtdlkibeljkapeaaGreatDoor.B
namespace Go.Proofs.YtdlkibeljkapeaaGreatDoor.B
open Go.RowKit Go.Proofs.YtdlkibeljkapeaaGreatDoorW.PrintWords Go.Proofs.YtdlkibeljkapeaaGreatDoorW.PrintLast Go.Proofs.YtdlkibeljkapeaaGreatDoorW.PrintMore
attribute [local go_sem] max2_int min2_int max_two min_two max_three min_three max_four min_four
attribute [local go_sem high] own_gtr own_leq own_geq own_cell_set Option.map_some
set_option linter.unusedVariables false
set_option linter.unusedSimpArgs false
mutual
def C0.j0:Nat → ByteArray → Int → Int → Bool → Int → Int → ByteArray → Int → Int → Int → ByteArray → Int → Option (Int × Int × ByteArray × Int × Int × Int × ByteArray × Int × Int)
 | 0,_,_,_,_,_,_,_,_,_,_,_,_=>none
 | k + 1,x0,x6,x7,x32,x103000,x103001,x103002,x103003,x103004,x103005,x103006,x103007=>if x32 = true then (some (6,x103001,x103002,x103003,x103004,x103005,x103006,x103007,x7)) else (C0.l0 k x0 x7 ([]:List Int) x6 x103000 x103001 x103002 x103003 x103004 x103005 x103006 x103007)
def C0.l0:Nat → ByteArray → Int → List Int → Int → Int → Int → ByteArray → Int → Int → Int → ByteArray → Int → Option (Int × Int × ByteArray × Int × Int × Int × ByteArray × Int × Int)
 | 0,_,_,_,_,_,_,_,_,_,_,_,_=>none
 | k + 1,x0,x7,x8,x9,x103000,x103001,x103002,x103003,x103004,x103005,x103006,x103007=>if x9 < x7 then (if 0 ≤ x9 then (if x9 < (x0.size:Int) then ((Lj.f (bt x0 x9)).bind fun t105=>(if 0 ≤ (wrap64 (x9 + 1)) then (if (wrap64 (x9 + 1)) < (x0.size:Int) then ((Lj.f (bt x0 (wrap64 (x9 + 1)))).bind fun t106=>(if x8.length < 140737488355328 then (C0.l0 k x0 x7 (x8 ++ [Go.bits .or .u8 ((t105 * 16) % 256) t106]) (wrap64 (x9 + 2)) x103000 x103001 x103002 x103003 x103004 x103005 x103006 x103007) else (none))) else (none)) else (none))) else (none)) else (none)) else ((To.f k x103000 x103001 x103002 x103003 x103004 x103005 x103006 x103007 5 0 0 (strOfNums x8)).bind fun bt110=>(some (bt110.1,bt110.2.1,bt110.2.2.1,bt110.2.2.2.1,bt110.2.2.2.2.1,bt110.2.2.2.2.2.1,bt110.2.2.2.2.2.2.1,bt110.2.2.2.2.2.2.2,wrap64 (x7 + 1))))
end
def C0.f (k:Nat) (a0:ByteArray) (a1_0:Int) (a1_1:Int) (a1_2:ByteArray) (a1_3:Int) (a1_4:Int) (a1_5:Int) (a1_6:ByteArray) (a1_7:Int):Option (Int × Int × ByteArray × Int × Int × Int × ByteArray × Int × Int):=(G1.f k a0 (wrap64 (a1_1 + 2))).bind fun t104=>(if (Int.tmod (wrap64 (t104 - (wrap64 (a1_1 + 2)))) 2) = 0 then (if t104 = (a0.size:Int) then (C0.j0 k a0 (wrap64 (a1_1 + 2)) t104 true a1_0 a1_1 a1_2 a1_3 a1_4 a1_5 a1_6 a1_7) else (if 0 ≤ t104 then (if t104 < (a0.size:Int) then (C0.j0 k a0 (wrap64 (a1_1 + 2)) t104 ((bt a0 t104) != 39) a1_0 a1_1 a1_2 a1_3 a1_4 a1_5 a1_6 a1_7) else (none)) else (none))) else (C0.j0 k a0 (wrap64 (a1_1 + 2)) t104 true a1_0 a1_1 a1_2 a1_3 a1_4 a1_5 a1_6 a1_7))
def C0.T10:Bool × List (List Nat × List Nat):=(true,[([],[]),([],[]),([],[]),([1,2],[1,2]),([3],[3]),([4],[4]),([],[]),([],[]),([7],[7]),([6,8],[6,8]),([9,4],[9]),([5,10],[5,10]),([11],[11]),([0,12,10],[0,12]),([13,13,0,1,2,3,4,5,6,7,8,9,10,11,12,13],[0,13])])
def C0.B10:List Nat:=[0,0,0,6,14,30,0,0,128,448,990,2046,4094,8191,16383]
theorem C0.tab10:rtab .any (opsOf Tryz.f103 10) = C0.T10:=by kernel_rfl
theorem C0.bits10:waitsOk C0.T10.2 C0.B10 = true:=by kernel_rfl
set_option maxHeartbeats 8000000 in
set_option maxRecDepth 100000 in
theorem C0.calls (k:Nat) (a0:ByteArray) (a1_0:Int) (a1_1:Int) (a1_2:ByteArray) (a1_3:Int) (a1_4:Int) (a1_5:Int) (a1_6:ByteArray) (a1_7:Int) (r1:Int) (r2:Int) (r3:ByteArray) (r4:Int) (r5:Int) (r6:Int) (r7:ByteArray) (r8:Int) (r9:Int) (w:World) (h:C0.f k a0 a1_0 a1_1 a1_2 a1_3 a1_4 a1_5 a1_6 a1_7 = some (r1,r2,r3,r4,r5,r6,r7,r8,r9)) :
  Calls Tryz.prog 103 #[.string a0, .agg #[.int .i64 a1_0, .int .i64 a1_1, .string a1_2, .int .i64 a1_3, .int .i64 a1_4, .int .i64 a1_5, .string a1_6, .int .i64 a1_7]] w fun e w'=>e = .returned (.tuple #[.agg #[.int .i64 r1, .int .i64 r2, .string r3, .int .i64 r4, .int .i64 r5, .int .i64 r6, .string r7, .int .i64 r8], .int .i64 r9]) ∧ Below w.heap.size w w':=by
 have hu85:=Tryz.underlying85
 have hu28:=Tryz.underlying28
 have HB:=z_ (Below.refl w.heap.size w)
 have H:((G1.f k a0 (wrap64 (a1_1 + 2))).bind fun t104=>(if (Int.tmod (wrap64 (t104 - (wrap64 (a1_1 + 2)))) 2) = 0 then (if t104 = (a0.size:Int) then (C0.j0 k a0 (wrap64 (a1_1 + 2)) t104 true a1_0 a1_1 a1_2 a1_3 a1_4 a1_5 a1_6 a1_7) else (if 0 ≤ t104 then (if t104 < (a0.size:Int) then (C0.j0 k a0 (wrap64 (a1_1 + 2)) t104 ((bt a0 t104) != 39) a1_0 a1_1 a1_2 a1_3 a1_4 a1_5 a1_6 a1_7) else (none)) else (none))) else (C0.j0 k a0 (wrap64 (a1_1 + 2)) t104 true a1_0 a1_1 a1_2 a1_3 a1_4 a1_5 a1_6 a1_7))) = some (r1,r2,r3,r4,r5,r6,r7,r8,r9):=h
 clear h
 replace H:=Option.bind_eq_some_iff.mp H
 obtain ⟨t104,A30,H⟩:=H
 replace H:(if (Int.tmod (wrap64 (t104 - (wrap64 (a1_1 + 2)))) 2) = 0 then (if t104 = (a0.size:Int) then (C0.j0 k a0 (wrap64 (a1_1 + 2)) t104 true a1_0 a1_1 a1_2 a1_3 a1_4 a1_5 a1_6 a1_7) else (if 0 ≤ t104 then (if t104 < (a0.size:Int) then (C0.j0 k a0 (wrap64 (a1_1 + 2)) t104 ((bt a0 t104) != 39) a1_0 a1_1 a1_2 a1_3 a1_4 a1_5 a1_6 a1_7) else (none)) else (none))) else (C0.j0 k a0 (wrap64 (a1_1 + 2)) t104 true a1_0 a1_1 a1_2 a1_3 a1_4 a1_5 a1_6 a1_7)) = some (r1,r2,r3,r4,r5,r6,r7,r8,r9):=H
 have A3:=z_ A30
 clear A30
 have HC4:=z_ H
 clear H
 go_enter Tryz.func103,Tryz.ntmps103
 go_upto_region 3 with (first|((with_reducible refine gate_dst (N:=3) rfl ?_);(try (refine gate_guard (by rfl) ?_;dsimp only));refine box_event (by rfl) (N:=3) (by rfl) (cs:=#[.int .i64 a1_0, .int .i64 a1_1, .string a1_2, .int .i64 a1_3, .int .i64 a1_4, .int .i64 a1_5, .string a1_6, .int .i64 a1_7]) (t:=85) Da ?_;intro gb102 hg w5 hbox hb;have BK102:=z_ (hbox);have GW102:=z_ ((Dh:w.heap.size ≤ gb102));have GE102:=z_ ((Dh:w.heap.size ≤ gb102));replace HB:=z_ (below_step Fe hb);clear hb hbox hg)|((with_reducible refine gate_dst (N:=4) rfl ?_);(try (refine gate_guard (by rfl) ?_;dsimp only));refine box_event (by rfl) (N:=4) (by rfl) (cs:=#[.int .i64 0, .int .i64 0, .string (⟨#[]⟩:ByteArray), .int .i64 0, .int .i64 0, .int .i64 0, .string (⟨#[]⟩:ByteArray), .int .i64 0]) (t:=85) Da ?_;intro gb103 hg w6 hbox hb;have BK103:=z_ (hbox);have GW103:=z_ ((by rw [hg];exact (H4 Adp):w.heap.size ≤ gb103));have GE103:=z_ ((by rw [hg];exact (H4 Adp):w.heap.size ≤ gb103));replace HB:=z_ (below_step Adp hb);have NB102_103:=z_ ((by rw [hg];exact Nat.ne_of_lt (blk_lt (g:=gb102) (o:=.cells #[.int .i64 a1_0, .int .i64 a1_1, .string a1_2, .int .i64 a1_3, .int .i64 a1_4, .int .i64 a1_5, .string a1_6, .int .i64 a1_7] 85 (0,0)) Vf):gb102 ≠ gb103));have NB103_102:=z_ ((by rw [hg];exact Nat.ne_of_gt (blk_lt (g:=gb102) (o:=.cells #[.int .i64 a1_0, .int .i64 a1_1, .string a1_2, .int .i64 a1_3, .int .i64 a1_4, .int .i64 a1_5, .string a1_6, .int .i64 a1_7] 85 (0,0)) Vf):gb103 ≠ gb102));replace BK102:=z_ (zk BK102.out hb);clear hb hbox hg;have hnb7:=NB102_103.out;have hnc7:=NB103_102.out;obtain ⟨_,_,_,_,_,_,_,_,_,_,_,_,_,_,_,_⟩:=M4 BK102.out)|((with_reducible refine gate_callee (f:=101) rfl ?_);refine goesL_ (some 15) rfl rfl Tryz.func101 (by kernel_rfl) rfl #[.string a0, .int .i64 (wrap64 (a1_1 + 2)), .func (.func 127) #[] #[]] rfl En ?_;(with_reducible refine (G1.calls k a0 (wrap64 (a1_1 + 2))  t104 _ A3.out).mono ?_);rintro e w' ⟨rfl,⟨nd,rfl⟩⟩;refine ⟨_,rfl,?_⟩))
 (try simp only [Act.put,List.setIfInBounds_toArray,List.set_cons_zero,List.set_cons_succ])
 go_cut [32] (fun v32 wc=>∃ (kq:Nat) (x32_3:Bool),v32 = .bool x32_3 ∧ Aside0 (C0.j0 kq a0 (wrap64 (a1_1 + 2)) t104 x32_3 a1_0 a1_1 a1_2 a1_3 a1_4 a1_5 a1_6 a1_7 = some (r1,r2,r3,r4,r5,r6,r7,r8,r9)) ∧ Aside0 (kq ≤ k) ∧ Aside0 (wc.heap[gb102]? = some (.cells #[.int .i64 a1_0, .int .i64 a1_1, .string a1_2, .int .i64 a1_3, .int .i64 a1_4, .int .i64 a1_5, .string a1_6, .int .i64 a1_7] 85 (0,0))) ∧ Aside0 (wc.heap[gb103]? = some (.cells #[.int .i64 0, .int .i64 0, .string (⟨#[]⟩:ByteArray), .int .i64 0, .int .i64 0, .int .i64 0, .string (⟨#[]⟩:ByteArray), .int .i64 0] 85 (0,0))) ∧ Aside0 (Below w.heap.size w wc))
 case first =>
  have H:=HC4.out
  clear HC4
  by_cases c9:(Int.tmod (wrap64 (t104 - (wrap64 (a1_1 + 2)))) 2) = 0
  ·rw [if_pos c9] at H
   have c9b0:((Int.tmod (wrap64 (t104 - (wrap64 (a1_1 + 2)))) 2) == 0) = true:=beq_iff_eq.mpr c9
   have c9b1:((Int.tmod (wrap64 (t104 - (wrap64 (a1_1 + 2)))) 2) != 0) = false:=bne_eq_false_iff_eq.mpr c9
   clear c9
   (first|rw [c9b0]|(simp only [i64_w,i32_w];rw [c9b0])|skip)
   by_cases c10:t104 = (a0.size:Int)
   ·rw [if_pos c10] at H
    have c10b0:(t104 == (a0.size:Int)) = true:=beq_iff_eq.mpr c10
    have c10b1:(t104 != (a0.size:Int)) = false:=bne_eq_false_iff_eq.mpr c10
    clear c10
    have H':=z_ H
    clear H
    go_wp2
    go_meet
    case rel=>exact ⟨_,(true),Hv,H',⟨by first|omega|exact Nat.le_refl _⟩,⟨by (with_reducible repeat first|apply Ad|apply Ac|apply Ae);exact BK102.out⟩,⟨by (with_reducible repeat first|apply Ad|apply Ac|apply Ae);exact BK103.out⟩,⟨by repeat first|(with_reducible first|exact HB.out|apply zA|apply zN|apply z1|refine zS ?_ GE102.out|refine zS ?_ GE103.out)|exact HB.out⟩⟩
   ·rw [if_neg c10] at H
    have c10b0:(t104 == (a0.size:Int)) = false:=beq_eq_false_iff_ne.mpr c10
    have c10b1:(t104 != (a0.size:Int)) = true:=bne_iff_ne.mpr c10
    by_cases c11:0 ≤ t104
    ·rw [if_pos c11] at H
     have c11b0:decide (0 ≤ t104) = true:=decide_eq_true c11
     clear c11
     by_cases c12:t104 < (a0.size:Int)
     ·rw [if_pos c12] at H
      have c12b0:decide (t104 < (a0.size:Int)) = true:=decide_eq_true c12
      clear c12
      have H':=z_ H
      clear H
      have p13:0 ≤ (t104:Int):=of_decide_eq_true Di
      have q13:t104 < (a0.size:Int):=of_decide_eq_true Di
      have hx13:=bt_at a0 t104
      replace p13:=eq_true p13
      replace q13:=eq_true q13
      go_wp2
      go_meet
      case rel=>exact ⟨_,(((bt a0 t104) != 39)),Hv,H',⟨by first|omega|exact Nat.le_refl _⟩,⟨by (with_reducible repeat first|apply Ad|apply Ac|apply Ae);exact BK102.out⟩,⟨by (with_reducible repeat first|apply Ad|apply Ac|apply Ae);exact BK103.out⟩,⟨by repeat first|(with_reducible first|exact HB.out|apply zA|apply zN|apply z1|refine zS ?_ GE102.out|refine zS ?_ GE103.out)|exact HB.out⟩⟩
     ·rw [if_neg c12] at H
      exact absurd H (by simp)
    ·rw [if_neg c11] at H
     exact absurd H (by simp)
  ·rw [if_neg c9] at H
   have c9b0:((Int.tmod (wrap64 (t104 - (wrap64 (a1_1 + 2)))) 2) == 0) = false:=beq_eq_false_iff_ne.mpr c9
   have c9b1:((Int.tmod (wrap64 (t104 - (wrap64 (a1_1 + 2)))) 2) != 0) = true:=bne_iff_ne.mpr c9
   (first|rw [c9b0]|(simp only [i64_w,i32_w];rw [c9b0])|skip)
   have H':=z_ H
   clear H
   go_wp2
   go_meet
   case rel=>exact ⟨_,(true),Hv,H',⟨by first|omega|exact Nat.le_refl _⟩,⟨by (with_reducible repeat first|apply Ad|apply Ac|apply Ae);exact BK102.out⟩,⟨by (with_reducible repeat first|apply Ad|apply Ac|apply Ae);exact BK103.out⟩,⟨by repeat first|(with_reducible first|exact HB.out|apply zA|apply zN|apply z1|refine zS ?_ GE102.out|refine zS ?_ GE103.out)|exact HB.out⟩⟩
 case rest =>
  clear HC4
  try clear c1
  try clear p1
  try clear q1
  try clear hx1
  try clear p2
  try clear p6
  try clear c7
  try clear c9
  try clear c9b0
  try clear c9b1
  try clear c10
  try clear c10b0
  try clear c10b1
  try clear c11
  try clear c11b0
  try clear c12
  try clear c12b0
  try clear p13
  try clear q13
  try clear hx13
  try clear hcz8_0
  try clear hcz8_1
  try clear hcz8_2
  try clear hcz8_3
  try clear hcz8_4
  try clear hcz8_5
  try clear hcz8_6
  try clear hcz8_7
  try clear hfz8_0
  try clear hfz8_1
  try clear hfz8_2
  try clear hfz8_3
  try clear hfz8_4
  try clear hfz8_5
  try clear hfz8_6
  try clear hfz8_7
  try clear p13
  try clear q13
  obtain ⟨kq,x32_3,rfl,HA,HJ3,BK102,BK103,HB⟩:=hcut
  cases kq with
  | zero=>exact absurd HA.out (by simp [C0.j0])
  | succ kj3 =>
   have H:=HA.out
   clear HA
   simp only [C0.j0] at H
   by_cases c14:x32_3 = true
   ·subst c14
    have H1:(some (6,a1_1,a1_2,a1_3,a1_4,a1_5,a1_6,a1_7,t104)) = some (r1,r2,r3,r4,r5,r6,r7,r8,r9):=by rw [if_pos rfl] at H;exact H
    clear H
    have H:=H1
    clear H1
    simp only [Option.some.injEq,Prod.mk.injEq] at H
    obtain ⟨rfl,rfl,rfl,rfl,rfl,rfl,rfl,rfl,rfl⟩:=H
    have hnb15:=NB102_103.out
    have hnc15:=NB103_102.out
    obtain ⟨_,_,_,_,_,_,_,_,_,_,_,_,_,_,_,_⟩:=M4 BK102.out
    obtain ⟨_,_,_,_,_,_,_,_,_,_,_,_,_,_,_,_⟩:=M4 BK103.out
    go_wp2
    refine bodyPost_ret (results_ct rfl _ _ gb103 85 #[.int .i64 6, .int .i64 a1_1, .string a1_2, .int .i64 a1_3, .int .i64 a1_4, .int .i64 a1_5, .string a1_6, .int .i64 a1_7] (0,0) _ rfl (by (with_reducible repeat first|apply Ad|apply Ac|apply Ae);refine Az (cs:=#[.int .i64 6, .int .i64 a1_1, .string a1_2, .int .i64 a1_3, .int .i64 a1_4, .int .i64 a1_5, .string a1_6, .int .i64 0]) ?_ 7 _ rfl;(with_reducible repeat first|apply Ad|apply Ac|apply Ae);refine Az (cs:=#[.int .i64 6, .int .i64 a1_1, .string a1_2, .int .i64 a1_3, .int .i64 a1_4, .int .i64 a1_5, .string (⟨#[]⟩:ByteArray), .int .i64 0]) ?_ 6 _ rfl;(with_reducible repeat first|apply Ad|apply Ac|apply Ae);refine Az (cs:=#[.int .i64 6, .int .i64 a1_1, .string a1_2, .int .i64 a1_3, .int .i64 a1_4, .int .i64 0, .string (⟨#[]⟩:ByteArray), .int .i64 0]) ?_ 5 _ rfl;(with_reducible repeat first|apply Ad|apply Ac|apply Ae);refine Az (cs:=#[.int .i64 6, .int .i64 a1_1, .string a1_2, .int .i64 a1_3, .int .i64 0, .int .i64 0, .string (⟨#[]⟩:ByteArray), .int .i64 0]) ?_ 4 _ rfl;(with_reducible repeat first|apply Ad|apply Ac|apply Ae);refine Az (cs:=#[.int .i64 6, .int .i64 a1_1, .string a1_2, .int .i64 0, .int .i64 0, .int .i64 0, .string (⟨#[]⟩:ByteArray), .int .i64 0]) ?_ 3 _ rfl;(with_reducible repeat first|apply Ad|apply Ac|apply Ae);refine Az (cs:=#[.int .i64 6, .int .i64 a1_1, .string (⟨#[]⟩:ByteArray), .int .i64 0, .int .i64 0, .int .i64 0, .string (⟨#[]⟩:ByteArray), .int .i64 0]) ?_ 2 _ rfl;(with_reducible repeat first|apply Ad|apply Ac|apply Ae);refine Az (cs:=#[.int .i64 6, .int .i64 0, .string (⟨#[]⟩:ByteArray), .int .i64 0, .int .i64 0, .int .i64 0, .string (⟨#[]⟩:ByteArray), .int .i64 0]) ?_ 1 _ rfl;(with_reducible repeat first|apply Ad|apply Ac|apply Ae);refine Az (cs:=#[.int .i64 0, .int .i64 0, .string (⟨#[]⟩:ByteArray), .int .i64 0, .int .i64 0, .int .i64 0, .string (⟨#[]⟩:ByteArray), .int .i64 0]) ?_ 0 _ rfl;(with_reducible repeat first|apply Ad|apply Ac|apply Ae);refine Bd ?_ NB103_102.out _;(with_reducible repeat first|apply Ad|apply Ac|apply Ae);exact BK103.out) Tryz.underlying85 rfl (by kernel_rfl)) rfl ?_
    exact ⟨by first|rfl|(simp [errW_none,errW_some] <;> rfl)|(simp [*,errW_none,errW_some] <;> rfl),by repeat first|(with_reducible first|exact HB.out|apply zA|apply zN|apply z1|refine zS ?_ GE102.out|refine zS ?_ GE103.out)|exact HB.out⟩
   ·replace c14:=Bool.eq_false_iff.mpr c14
    subst c14
    have H1:(C0.l0 kj3 a0 t104 ([]:List Int) (wrap64 (a1_1 + 2)) a1_0 a1_1 a1_2 a1_3 a1_4 a1_5 a1_6 a1_7) = some (r1,r2,r3,r4,r5,r6,r7,r8,r9):=by rw [if_neg (show ¬ (false = true) by decide)] at H;exact H
    clear H
    have H:=H1
    clear H1
    have H':=z_ H
    clear H
    go_wp2
    go_loopg [8,9] kj3 (fun kq v8 v9 w'=>∃ (x8_2:List Int) (x9_2:Int),v9 = .int .i64 x9_2 ∧ Aside0 (C0.l0 kq a0 t104 x8_2 x9_2 a1_0 a1_1 a1_2 a1_3 a1_4 a1_5 a1_6 a1_7 = some (r1,r2,r3,r4,r5,r6,r7,r8,r9)) ∧ Aside0 (kq ≤ kj3) ∧ Aside0 (Kd.R (Kd.int .u8) 5 w' w.heap.size (fun _=>True) v8 x8_2) ∧ Aside0 (w'.heap[gb102]? = some (.cells #[.int .i64 a1_0, .int .i64 a1_1, .string a1_2, .int .i64 a1_3, .int .i64 a1_4, .int .i64 a1_5, .string a1_6, .int .i64 a1_7] 85 (0,0))) ∧ Aside0 (w'.heap[gb103]? = some (.cells #[.int .i64 0, .int .i64 0, .string (⟨#[]⟩:ByteArray), .int .i64 0, .int .i64 0, .int .i64 0, .string (⟨#[]⟩:ByteArray), .int .i64 0] 85 (0,0))) ∧ Aside0 (Below w.heap.size w w'))
    case atStart=>exact ⟨(([]:List Int)),((wrap64 (a1_1 + 2))),Hv,H',⟨Nat.le_refl _⟩,⟨by first|exact Kd.R_nil _ _ _ _ _|exact Kd.N_nil _ _ _ _ _|exact Kd.V_nil _ _ _ _ _|exact Kd.Q_nil _ _ _ _ _|exact Kd.S_nil _ _ _ _ _⟩,⟨by (with_reducible repeat first|apply Ad|apply Ac|apply Ae);exact BK102.out⟩,⟨by (with_reducible repeat first|apply Ad|apply Ac|apply Ae);exact BK103.out⟩,⟨by repeat first|(with_reducible first|exact HB.out|apply zA|apply zN|apply z1|refine zS ?_ GE102.out|refine zS ?_ GE103.out)|exact HB.out⟩⟩
    case round =>
     clear H'
     try clear c1
     try clear p1
     try clear q1
     try clear hx1
     try clear p2
     try clear p6
     try clear c7
     try clear c9
     try clear c9b0
     try clear c9b1
     try clear c10
     try clear c10b0
     try clear c10b1
     try clear c11
     try clear c11b0
     try clear c12
     try clear c12b0
     try clear p13
     try clear q13
     try clear hx13
     try clear c14
     try clear c15
     try clear hcz16_0
     try clear hcz16_1
     try clear hcz16_2
     try clear hcz16_3
     try clear hcz16_4
     try clear hcz16_5
     try clear hcz16_6
     try clear hcz16_7
     try clear hcz17_0
     try clear hcz17_1
     try clear hcz17_2
     try clear hcz17_3
     try clear hcz17_4
     try clear hcz17_5
     try clear hcz17_6
     try clear hcz17_7
     try clear hcz8_0
     try clear hcz8_1
     try clear hcz8_2
     try clear hcz8_3
     try clear hcz8_4
     try clear hcz8_5
     try clear hcz8_6
     try clear hcz8_7
     try clear hfz16_0
     try clear hfz16_1
     try clear hfz16_2
     try clear hfz16_3
     try clear hfz16_4
     try clear hfz16_5
     try clear hfz16_6
     try clear hfz16_7
     try clear hfz17_0
     try clear hfz17_1
     try clear hfz17_2
     try clear hfz17_3
     try clear hfz17_4
     try clear hfz17_5
     try clear hfz17_6
     try clear hfz17_7
     try clear hfz8_0
     try clear hfz8_1
     try clear hfz8_2
     try clear hfz8_3
     try clear hfz8_4
     try clear hfz8_5
     try clear hfz8_6
     try clear hfz8_7
     try clear p1
     try clear p13
     try clear p2
     try clear p6
     try clear q1
     try clear q13
     obtain ⟨x8_2,x9_2,rfl,HA,HK2,HO_8,BK102,BK103,HB⟩:=hrel
     cases gk with
     | zero=>exact absurd HA.out (by simp [C0.l0])
     | succ k2 =>
      have H:=HA.out
      clear HA
      simp only [C0.l0] at H
      by_cases c18:x9_2 < t104
      ·rw [if_pos c18] at H
       have c18b0:decide (x9_2 < t104) = true:=decide_eq_true c18
       clear c18
       by_cases c19:0 ≤ x9_2
       ·rw [if_pos c19] at H
        have c19b0:decide (0 ≤ x9_2) = true:=decide_eq_true c19
        clear c19
        by_cases c20:x9_2 < (a0.size:Int)
        ·rw [if_pos c20] at H
         have c20b0:decide (x9_2 < (a0.size:Int)) = true:=decide_eq_true c20
         clear c20
         replace H:=Option.bind_eq_some_iff.mp H
         obtain ⟨t105,A220,H⟩:=H
         replace H:(if 0 ≤ (wrap64 (x9_2 + 1)) then (if (wrap64 (x9_2 + 1)) < (a0.size:Int) then ((Lj.f (bt a0 (wrap64 (x9_2 + 1)))).bind fun t106=>(if x8_2.length < 140737488355328 then (C0.l0 k2 a0 t104 (x8_2 ++ [Go.bits .or .u8 ((t105 * 16) % 256) t106]) (wrap64 (x9_2 + 2)) a1_0 a1_1 a1_2 a1_3 a1_4 a1_5 a1_6 a1_7) else (none))) else (none)) else (none)) = some (r1,r2,r3,r4,r5,r6,r7,r8,r9):=H
         have A22:=z_ A220
         clear A220
         obtain ⟨ji23,hji23⟩:∃ j_:Int,(wrap64 (x9_2 + 1)) = j_:=⟨_,rfl⟩
         replace H:(if 0 ≤ (ji23) then (if (ji23) < (a0.size:Int) then ((Lj.f (bt a0 (ji23))).bind fun t106=>(if x8_2.length < 140737488355328 then (C0.l0 k2 a0 t104 (x8_2 ++ [Go.bits .or .u8 ((t105 * 16) % 256) t106]) (wrap64 (x9_2 + 2)) a1_0 a1_1 a1_2 a1_3 a1_4 a1_5 a1_6 a1_7) else (none))) else (none)) else (none)) = some (r1,r2,r3,r4,r5,r6,r7,r8,r9):=by first|(rw [hji23] at H;exact H)|(simp only [hji23] at H ⊢;exact H)
         (try rw [hji23] at A22)
         have hji23w:(IntKind.i64.wrap (x9_2 + 1)) = ji23:=(i64_w _).trans hji23
         by_cases c24:0 ≤ (ji23)
         ·rw [if_pos c24] at H
          have c24b0:decide (0 ≤ (ji23)) = true:=decide_eq_true c24
          clear c24
          by_cases c25:(ji23) < (a0.size:Int)
          ·rw [if_pos c25] at H
           have c25b0:decide ((ji23) < (a0.size:Int)) = true:=decide_eq_true c25
           clear c25
           replace H:=Option.bind_eq_some_iff.mp H
           obtain ⟨t106,A270,H⟩:=H
           replace H:(if x8_2.length < 140737488355328 then (C0.l0 k2 a0 t104 (x8_2 ++ [Go.bits .or .u8 ((t105 * 16) % 256) t106]) (wrap64 (x9_2 + 2)) a1_0 a1_1 a1_2 a1_3 a1_4 a1_5 a1_6 a1_7) else (none)) = some (r1,r2,r3,r4,r5,r6,r7,r8,r9):=H
           have A27:=z_ A270
           clear A270
           by_cases c28:x8_2.length < 140737488355328
           ·rw [if_pos c28] at H
            have LMc28:=z_ c28
            clear c28
            obtain ⟨y107,hy107⟩:∃ y_:List Int,y_ = (x8_2 ++ [Go.bits .or .u8 ((t105 * 16) % 256) t106]):=⟨_,rfl⟩
            replace H:(C0.l0 k2 a0 t104 y107 (wrap64 (x9_2 + 2)) a1_0 a1_1 a1_2 a1_3 a1_4 a1_5 a1_6 a1_7) = some (r1,r2,r3,r4,r5,r6,r7,r8,r9):=by first|(rw [hy107];with_reducible exact H)|(have H2_:=(Option.bind_some _ _).symm.trans H;rw [hy107];with_reducible exact H2_)|(have H2_:=(Option.bind_some _ _).symm.trans H;with_reducible exact H2_)|with_reducible exact H|(rw [hy107];exact H)|exact H
            have Ny107:=z_ hy107
            clear hy107
            have H':=z_ H
            clear H
            try go_wp2
            have n0_:=z_ (Kd.R_drew HO_8.out)
            have n1_:=z_ (Ac BK102.out)
            have n2_:=z_ (Ac BK103.out)
            have n3_:=z_ (z1 HB.out)
            clear HO_8
            clear BK102
            clear BK103
            clear HB
            have HO_8:=n0_
            have BK102:=n1_
            have BK103:=n2_
            have HB:=n3_
            clear n0_ n1_ n2_ n3_
            have p21:0 ≤ (x9_2:Int):=of_decide_eq_true Di
            have q21:x9_2 < (a0.size:Int):=of_decide_eq_true Di
            have hx21:=bt_at a0 x9_2
            replace p21:=eq_true p21
            replace q21:=eq_true q21
            have p26:0 ≤ ((ji23):Int):=of_decide_eq_true Di
            have q26:(ji23) < (a0.size:Int):=of_decide_eq_true Di
            have hx26:=bt_at a0 (ji23)
            replace p26:=eq_true p26
            replace q26:=eq_true q26
            refine start_ (n:=15) (S:=fun w'=>True) (ds:=[]) #[false,false,false,false,false,false,false,false,false,false,false,false,false,false,false] (by kernel_rfl) rfl rfl trivial (fun hHeld=>?_);refine with_tabW C0.tab10 C0.bits10 (fun HT_ HW_=>?_)
            generalize wr.drew = w29 at HO_8 BK102 BK103 HB hHeld ⊢
            refine pure_ (i:=0) (N:=some 42) (v:=?_) (a':=?_) #[true,false,false,false,false,false,false,false,false,false,false,false,false,false,false] rfl rfl (any_of HT_.out (by kernel_rfl)) (fun _ _ _ h=>h) (Or.inl ⟨by rfl,?_⟩) ?_ ?_
            rotate_left
            ·intro w'
             go_simp
             with_reducible rfl
            rotate_left
            ·simp only [Act.put,List.setIfInBounds_toArray,List.set_cons_zero,List.set_cons_succ,i64_w,i32_w]
             rfl
            refine pure_ (i:=1) (N:=some 43) (v:=?_) (a':=?_) #[true,true,false,false,false,false,false,false,false,false,false,false,false,false,false] rfl rfl (any_of HT_.out (by kernel_rfl)) (fun _ _ _ h=>h) (Or.inl ⟨by rfl,?_⟩) ?_ ?_
            rotate_left
            ·intro w'
             go_simp
             with_reducible rfl
            rotate_left
            ·simp only [Act.put,List.setIfInBounds_toArray,List.set_cons_zero,List.set_cons_succ,i64_w,i32_w]
             rfl
            refine pure_ (i:=2) (N:=some 44) (v:=?_) (a':=?_) #[true,true,true,false,false,false,false,false,false,false,false,false,false,false,false] rfl rfl (any_of HT_.out (by kernel_rfl)) (fun _ _ _ h=>h) (Or.inl ⟨by rfl,?_⟩) ?_ ?_
            rotate_left
            ·intro w'
             go_simp
             with_reducible rfl
            rotate_left
            ·simp only [Act.put,List.setIfInBounds_toArray,List.set_cons_zero,List.set_cons_succ,i64_w,i32_w]
             rfl
            refine pure_ (i:=6) (N:=some 48) (v:=?_) (a':=?_) #[true,true,true,false,false,false,true,false,false,false,false,false,false,false,false] rfl rfl (any_of HT_.out (by kernel_rfl)) (fun _ _ _ h=>h) (Or.inl ⟨by rfl,?_⟩) ?_ ?_
            rotate_left
            ·intro w'
             go_simp
             with_reducible rfl
            rotate_left
            ·simp only [Act.put,List.setIfInBounds_toArray,List.set_cons_zero,List.set_cons_succ,i64_w,i32_w]
             rfl
            refine pure_ (i:=7) (N:=some 49) (v:=?_) (a':=?_) #[true,true,true,false,false,false,true,true,false,false,false,false,false,false,false] rfl rfl (any_of HT_.out (by kernel_rfl)) (fun _ _ _ h=>h) (Or.inl ⟨by rfl,?_⟩) ?_ ?_
            rotate_left
            ·intro w'
             go_simp
             with_reducible rfl
            rotate_left
            ·simp only [Act.put,List.setIfInBounds_toArray,List.set_cons_zero,List.set_cons_succ,i64_w,i32_w]
             rfl
            refine pure_ (i:=8) (N:=some 50) (v:=?_) (a':=?_) #[true,true,true,false,false,false,true,true,true,false,false,false,false,false,false] rfl rfl (any_of HT_.out (by kernel_rfl)) (fun _ _ _ h=>h) (Or.inl ⟨by rfl,?_⟩) ?_ ?_
            rotate_left
            ·intro w'
             go_simp
             with_reducible rfl
            rotate_left
            ·simp only [Act.put,List.setIfInBounds_toArray,List.set_cons_zero,List.set_cons_succ,i64_w,i32_w]
             rfl
            refine take_ (i:=3) (N:=some 45) (v:=?_) (a':=?_) #[true,true,true,true,false,false,true,true,true,false,false,false,false,false,false] rfl rfl (take_ofW HT_.out HW_.out (by kernel_rfl)) (fun _ _ _ h=>h) (Or.inl ⟨by rfl,?_⟩) hHeld ?_ ?_
            rotate_left
            ·intro w' _
             go_simp
             with_reducible rfl
            rotate_left
            ·simp only [Act.put,List.setIfInBounds_toArray,List.set_cons_zero,List.set_cons_succ,i64_w,i32_w]
             rfl
            refine take_ (i:=9) (N:=some 51) (v:=?_) (a':=?_) #[true,true,true,true,false,false,true,true,true,true,false,false,false,false,false] rfl rfl (take_ofW HT_.out HW_.out (by kernel_rfl)) (fun _ _ _ h=>h) (Or.inl ⟨by rfl,?_⟩) hHeld ?_ ?_
            rotate_left
            ·intro w' _
             go_simp
             with_reducible rfl
            rotate_left
            ·simp only [Act.put,List.setIfInBounds_toArray,List.set_cons_zero,List.set_cons_succ,i64_w,i32_w]
             rfl
            refine one_ (i:=4) (N:=some 46) #[true,true,true,true,true,false,true,true,true,true,false,false,false,false,false] rfl rfl (one_of HT_.out (by kernel_rfl)) (by decide) (fun K hK=>?_)
            refine goes_ Tryz.func128 (by kernel_rfl) rfl #[.int .u8 (bt a0 x9_2)] (by rfl) rfl rfl En ?_
            with_reducible refine (Lj.calls (bt a0 x9_2) t105 _ A22.out).mono ?_
            rintro e w' ⟨rfl,⟨nd,rfl⟩⟩
            refine ⟨_,rfl,?_⟩
            refine hK.out _ _ trivial (fun hHeld=>?_)
            clear hK K
            refine norm_ (a':=?_) ?_ ?_
            rotate_left
            ·show Act.put _ (some 46) _ = _
             simp only [Act.put,List.setIfInBounds_toArray,List.set_cons_zero,List.set_cons_succ,i64_w,i32_w]
             rfl
            refine pure_ (i:=5) (N:=some 47) (v:=?_) (a':=?_) #[true,true,true,true,true,true,true,true,true,true,false,false,false,false,false] rfl rfl (any_of HT_.out (by kernel_rfl)) (fun _ _ _ h=>h) (Or.inl ⟨by rfl,?_⟩) ?_ ?_
            rotate_left
            ·intro w'
             go_simp
             with_reducible rfl
            rotate_left
            ·simp only [Act.put,List.setIfInBounds_toArray,List.set_cons_zero,List.set_cons_succ,i64_w,i32_w]
             rfl
            refine one_ (i:=10) (N:=some 52) #[true,true,true,true,true,true,true,true,true,true,true,false,false,false,false] rfl rfl (one_of HT_.out (by kernel_rfl)) (by decide) (fun K hK=>?_)
            refine goes_ Tryz.func128 (by kernel_rfl) rfl #[.int .u8 (bt a0 (ji23))] (by rfl) rfl rfl (by (try simp only [List.map_toArray,List.map_cons,List.map_nil]);first|done|(simp only [hji23];rfl)|rfl|(simp only [List.length_drop,List.length_take];rfl)) ?_
            with_reducible refine (Lj.calls (bt a0 (ji23)) t106 _ A27.out).mono ?_
            rintro e w' ⟨rfl,⟨nd,rfl⟩⟩
            refine ⟨_,rfl,?_⟩
            refine hK.out _ _ trivial (fun hHeld=>?_)
            clear hK K
            refine norm_ (a':=?_) ?_ ?_
            rotate_left
            ·show Act.put _ (some 52) _ = _
             simp only [Act.put,List.setIfInBounds_toArray,List.set_cons_zero,List.set_cons_succ,i64_w,i32_w]
             rfl
            refine pure_ (i:=11) (N:=some 53) (v:=?_) (a':=?_) #[true,true,true,true,true,true,true,true,true,true,true,true,false,false,false] rfl rfl (any_of HT_.out (by kernel_rfl)) (fun _ _ _ h=>h) (Or.inl ⟨by rfl,?_⟩) ?_ ?_
            rotate_left
            ·intro w'
             go_simp
             with_reducible rfl
            rotate_left
            ·simp only [Act.put,List.setIfInBounds_toArray,List.set_cons_zero,List.set_cons_succ,i64_w,i32_w]
             rfl
            refine one_ (i:=12) (N:=some 54) #[true,true,true,true,true,true,true,true,true,true,true,true,true,false,false] rfl rfl (one_of HT_.out (by kernel_rfl)) (by decide) (fun K hK=>?_)
            refine value_ (w1:=?_) (v:=?_) (by rfl) rfl ?_ ?_
            rotate_left 2
            ·go_simp
             constructor
             ·rfl
             ·rfl
            refine hK.out _ _ trivial (fun hHeld=>?_)
            clear hK K
            refine norm_ (a':=?_) ?_ ?_
            rotate_left
            ·show Act.put _ (some 54) _ = _
             simp only [Act.put,List.setIfInBounds_toArray,List.set_cons_zero,List.set_cons_succ,i64_w,i32_w]
             rfl
            refine one_ (i:=13) (N:=some 55) #[true,true,true,true,true,true,true,true,true,true,true,true,true,true,false] rfl rfl (one_of HT_.out (by kernel_rfl)) (by decide) (fun K hK=>?_)
            refine Kd.R_append_step (Kd.int .u8) (w0:=w) w.heap.size (by rfl) (.tmp 42) (.tmp 54) 62 5 (.int .u8 0) 1 rfl Tryz.underlying62 info5 rfl (by decide) (by omega) u8 x8_2 (Go.bits .or .u8 ((t105 * 16) % 256) t106) [.int .u8 (Go.bits .or .u8 ((t105 * 16) % 256) t106)] (fun _=>True) (fun _=>False) rfl rfl ?aP (fun _ hk=>hk.elim) ?aF ?aO ?aB ?aS ?aL ?_
            (case aP=>exact rfl)
            (case aB=>exact Adq)
            (case aF=>exact (fun _ _=>trivial))
            (case aO=>exact (by (with_reducible repeat (first|apply Kd.R_alloc|apply Kd.R_drewN|apply Kd.R_drew));exact HO_8.out))
            (case aS=>exact (H4 Adq))
            (case aL=>have:=LMc28.out;omega)
            intro v108 w30 ho hb hg hat
            rw [← Ny107.out] at ho
            have n0_:=z_ (blk_grown (g:=gb102) (o:=.cells #[.int .i64 a1_0, .int .i64 a1_1, .string a1_2, .int .i64 a1_3, .int .i64 a1_4, .int .i64 a1_5, .string a1_6, .int .i64 a1_7] 85 (0,0)) Vf hg (Kd.R_ne HO_8.out BK102.out (by decide)))
            have n1_:=z_ (blk_grown (g:=gb103) (o:=.cells #[.int .i64 0, .int .i64 0, .string (⟨#[]⟩:ByteArray), .int .i64 0, .int .i64 0, .int .i64 0, .string (⟨#[]⟩:ByteArray), .int .i64 0] 85 (0,0)) Jm hg (Kd.R_ne HO_8.out BK103.out (by decide)))
            have n2_:=z_ (hb)
            have n3_:=z_ (ho)
            clear BK102
            clear BK103
            clear HB
            clear HO_8
            have BK102:=n0_
            have BK103:=n1_
            have HB:=n2_
            have HO109:=n3_
            clear n0_ n1_ n2_ n3_
            clear ho hb hg hat
            refine hK.out _ _ trivial (fun hHeld=>?_)
            clear hK K
            refine norm_ (a':=?_) ?_ ?_
            rotate_left
            ·show Act.put _ (some 55) _ = _
             simp only [Act.put,List.setIfInBounds_toArray,List.set_cons_zero,List.set_cons_succ,i64_w,i32_w]
             rfl
            refine pure_ (i:=14) (N:=some 8) (v:=?_) (a':=?_) #[true,true,true,true,true,true,true,true,true,true,true,true,true,true,true] rfl rfl (any_of HT_.out (by kernel_rfl)) (fun _ _ _ h=>h) (Or.inl ⟨by rfl,?_⟩) ?_ ?_
            rotate_left
            ·intro w'
             go_simp
             with_reducible rfl
            rotate_left
            ·simp only [Act.put,List.setIfInBounds_toArray,List.set_cons_zero,List.set_cons_succ,i64_w,i32_w]
             rfl
            refine done_ (done_of HT_.out (by kernel_rfl)) ?_
            try go_wp2
            go_roundg k2
            case measure=>have:=HJ3.out;have:=HK2.out;omega
            case rel=>exact ⟨(y107),(wrap64 (x9_2 + 2)),Hv,(by first|with_reducible exact H'|(rw [hji23];exact H')|exact H'),⟨by have:=HJ3.out;have:=HK2.out;omega⟩,⟨by (with_reducible repeat (first|apply Kd.R_alloc|apply Kd.R_drewN|apply Kd.R_drew));exact HO109.out⟩,⟨by (with_reducible repeat first|apply Ad|apply Ac|apply Ae);exact BK102.out⟩,⟨by (with_reducible repeat first|apply Ad|apply Ac|apply Ae);exact BK103.out⟩,⟨by repeat first|(with_reducible first|exact HB.out|apply zA|apply zN|apply z1|refine zS ?_ GE102.out|refine zS ?_ GE103.out)|exact HB.out⟩⟩
           ·rw [if_neg c28] at H
            exact absurd H (by simp)
          ·rw [if_neg c25] at H
           exact absurd H (by simp)
         ·rw [if_neg c24] at H
          exact absurd H (by simp)
        ·rw [if_neg c20] at H
         exact absurd H (by simp)
       ·rw [if_neg c19] at H
        exact absurd H (by simp)
      ·rw [if_neg c18] at H
       have c18b0:decide (x9_2 < t104) = false:=decide_eq_false c18
       clear c18
       replace H:=Option.bind_eq_some_iff.mp H
       obtain ⟨⟨t110,t111,t112,t113,t114,t115,t116,t117⟩,A310,H⟩:=H
       replace H:(some (t110,t111,t112,t113,t114,t115,t116,t117,wrap64 (t104 + 1))) = some (r1,r2,r3,r4,r5,r6,r7,r8,r9):=H
       have A31:=z_ A310
       clear A310
       simp only [Option.some.injEq,Prod.mk.injEq] at H
       obtain ⟨rfl,rfl,rfl,rfl,rfl,rfl,rfl,rfl,rfl⟩:=H
       have hnb32:=NB102_103.out
       have hnc32:=NB103_102.out
       obtain ⟨_,_,_,_,_,_,_,_,_,_,_,_,_,_,_,_⟩:=M4 BK102.out
       have hcv34:=own_string (P:=Tryz.prog) Tryz.underlying62 Tryz.underlying5 Tryz.underlying9 (Kd.own_of_R HO_8.out)
       go_wp2_with (first|((with_reducible refine gate_callee (f:=129) rfl ?_);refine goesL_ (some 60) rfl rfl Tryz.func129 (by kernel_rfl) rfl #[.agg #[.int .i64 a1_0, .int .i64 a1_1, .string a1_2, .int .i64 a1_3, .int .i64 a1_4, .int .i64 a1_5, .string a1_6, .int .i64 a1_7], .agg #[.int .i64 5, .int .i64 0, .int .i64 0, .string (strOfNums x8_2)]] rfl En ?_;(with_reducible refine (To.calls k2 a1_0 a1_1 a1_2 a1_3 a1_4 a1_5 a1_6 a1_7 5 0 0 (strOfNums x8_2) t110 t111 t112 t113 t114 t115 t116 t117 _ A31.out).mono ?_);rintro e w35 ⟨rfl,hb⟩;refine ⟨_,rfl,?_⟩;replace HO_8:=z_ (Kd.R_below (by (with_reducible repeat (first|apply Kd.R_alloc|apply Kd.R_drewN|apply Kd.R_drew));exact HO_8.out) hb);replace BK102:=z_ (zk BK102.out hb);replace BK103:=z_ (zk BK103.out hb);replace HB:=z_ (below_step Adq hb);(try clear hb);(try clear hb2);(try clear hk);(try clear hi);obtain ⟨_,_,_,_,_,_,_,_,_,_,_,_,_,_,_,_⟩:=M4 BK103.out))
       refine bodyPost_ret (results_ct rfl _ _ gb103 85 #[.int .i64 t110, .int .i64 t111, .string t112, .int .i64 t113, .int .i64 t114, .int .i64 t115, .string t116, .int .i64 t117] (0,0) _ rfl (by (with_reducible repeat first|apply Ad|apply Ac|apply Ae);refine Az (cs:=#[.int .i64 t110, .int .i64 t111, .string t112, .int .i64 t113, .int .i64 t114, .int .i64 t115, .string t116, .int .i64 0]) ?_ 7 _ rfl;(with_reducible repeat first|apply Ad|apply Ac|apply Ae);refine Az (cs:=#[.int .i64 t110, .int .i64 t111, .string t112, .int .i64 t113, .int .i64 t114, .int .i64 t115, .string (⟨#[]⟩:ByteArray), .int .i64 0]) ?_ 6 _ rfl;(with_reducible repeat first|apply Ad|apply Ac|apply Ae);refine Az (cs:=#[.int .i64 t110, .int .i64 t111, .string t112, .int .i64 t113, .int .i64 t114, .int .i64 0, .string (⟨#[]⟩:ByteArray), .int .i64 0]) ?_ 5 _ rfl;(with_reducible repeat first|apply Ad|apply Ac|apply Ae);refine Az (cs:=#[.int .i64 t110, .int .i64 t111, .string t112, .int .i64 t113, .int .i64 0, .int .i64 0, .string (⟨#[]⟩:ByteArray), .int .i64 0]) ?_ 4 _ rfl;(with_reducible repeat first|apply Ad|apply Ac|apply Ae);refine Az (cs:=#[.int .i64 t110, .int .i64 t111, .string t112, .int .i64 0, .int .i64 0, .int .i64 0, .string (⟨#[]⟩:ByteArray), .int .i64 0]) ?_ 3 _ rfl;(with_reducible repeat first|apply Ad|apply Ac|apply Ae);refine Az (cs:=#[.int .i64 t110, .int .i64 t111, .string (⟨#[]⟩:ByteArray), .int .i64 0, .int .i64 0, .int .i64 0, .string (⟨#[]⟩:ByteArray), .int .i64 0]) ?_ 2 _ rfl;(with_reducible repeat first|apply Ad|apply Ac|apply Ae);refine Az (cs:=#[.int .i64 t110, .int .i64 0, .string (⟨#[]⟩:ByteArray), .int .i64 0, .int .i64 0, .int .i64 0, .string (⟨#[]⟩:ByteArray), .int .i64 0]) ?_ 1 _ rfl;(with_reducible repeat first|apply Ad|apply Ac|apply Ae);refine Az (cs:=#[.int .i64 0, .int .i64 0, .string (⟨#[]⟩:ByteArray), .int .i64 0, .int .i64 0, .int .i64 0, .string (⟨#[]⟩:ByteArray), .int .i64 0]) ?_ 0 _ rfl;(with_reducible repeat first|apply Ad|apply Ac|apply Ae);exact BK103.out) Tryz.underlying85 rfl (by kernel_rfl)) rfl ?_
       exact ⟨by first|rfl|(simp [errW_none,errW_some] <;> rfl)|(simp [*,errW_none,errW_some] <;> rfl),by repeat first|(with_reducible first|exact HB.out|apply zA|apply zN|apply z1|refine zS ?_ GE102.out|refine zS ?_ GE103.out)|exact HB.out⟩
end Go.Proofs.YtdlkibeljkapeaaGreatDoor.B
namespace Go.Proofs.YtdlkibeljkapeaaGreatDoor.Den
open Go Go.RowKit
open Go.Proofs.YtdlkibeljkapeaaGreatDoor.B
open Go.Proofs.YtdlkibeljkapeaaGreatDoorW.PrintWords (bt)
def Ed (n:Nat):UInt8:=([48,49,50,51,52,53,54,55,56,57,97,98,99,100,101,102]:List UInt8).getD n 0
def hx:List UInt8→List UInt8
 | []=>[]
 | c::l=>Ed (c.toNat / 16)::Ed (c.toNat % 16)::hx l
theorem Q1:∀ l:List UInt8,(hx l).length=2*l.length
 | []=>rfl
 | c::l=>by simp [hx,Q1 l];omega
def numsOf (l:List UInt8):List Int:=l.map fun c=>(c.toNat:Int)
theorem Q0 {s:List UInt8} {i:Nat} {c:UInt8} (h:s[i]? = some c):bt ⟨s.toArray⟩ (i:Int)=c.toNat:=by
 have hl:i < s.length:=(List.getElem?_eq_some_iff.1 h).1
 have hs:i < (⟨s.toArray⟩:ByteArray).size:=by show i < s.toArray.size;simpa using hl
 have hs':(i:Int).toNat < (⟨s.toArray⟩:ByteArray).size:=by rw [Int.toNat_natCast];exact hs
 unfold bt
 rw [dif_pos hs']
 have he:(⟨s.toArray⟩:ByteArray)[(i:Int).toNat]'hs'=c:=by
  show s.toArray[(i:Int).toNat]'_=c
  simp only [Int.toNat_natCast,List.getElem_toArray]
  exact (List.getElem?_eq_some_iff.1 h).2
 rw [he]
theorem Ax9:((List.range 256).all fun n=>decide (Go.bits .and .u8 (n:Int) 15=((n % 16:Nat):Int)))=true:=by decide +kernel
theorem Ak7:((List.range 16).all fun n=>decide (bt (⟨#[48,49,50,51,52,53,54,55,56,57,97,98,99,100,101,102]⟩:ByteArray) (n:Int)=((Ed n).toNat:Int)))=true:=by decide +kernel
theorem Alf:∀ (l s:List UInt8) (i k:Nat) (acc:List Int),s.drop i=l→l.length < k→acc.length+2*l.length < 1000→s.length≤1000→Ep.l0 k ⟨s.toArray⟩ acc i=some (strOfNums (acc++numsOf (hx l)))
 | [],s,i,k,acc,hd,hk,_,hs=>by
  obtain ⟨k,rfl⟩:∃ j,k=j+1:=⟨k - 1,by omega⟩
  have hl:s.length≤i:=by
   have:=congrArg List.length hd
   simp at this;omega
  have hz:((⟨s.toArray⟩:ByteArray).size:Int)=s.length:=by show ((s.toArray.size:Nat):Int)=_;simp
  unfold Ep.l0
  rw [hz,if_neg (by omega)]
  simp [numsOf,hx]
 | c::l,s,i,k,acc,hd,hk,ha,hs=>by
  obtain ⟨k,rfl⟩:∃ j,k=j+1:=⟨k - 1,by simp at hk;omega⟩
  obtain ⟨hil,hc⟩:=D7 hd
  have hd2:s.drop (i+1)=l:=B6 (g:=[c]) hd
  have hz:((⟨s.toArray⟩:ByteArray).size:Int)=s.length:=by show ((s.toArray.size:Nat):Int)=_;simp
  have hc256:=c.toNat_lt
  have e1:Go.bits .and .u8 (c.toNat:Int) 15=((c.toNat % 16:Nat):Int):=of_decide_eq_true (List.all_eq_true.1 Ax9 c.toNat (by rw [List.mem_range];exact hc256))
  have e2:(c.toNat:Int) / 16=((c.toNat / 16:Nat):Int):=by omega
  have ew:wrap64 ((i:Int)+1)=((i+1:Nat):Int):=by rw [wrap64_of (by omega) (by omega)];omega
  have c1:(i:Int) < (s.length:Int):=by omega
  have c2:(0:Int)≤(i:Int):=by omega
  have c3:(0:Int)≤((c.toNat / 16:Nat):Int):=by omega
  have c4:((c.toNat / 16:Nat):Int) < 16:=by omega
  have c5:(0:Int)≤((c.toNat % 16:Nat):Int):=by omega
  have c6:((c.toNat % 16:Nat):Int) < 16:=by omega
  have c7:c.toNat / 16 < 16:=by omega
  have c8:c.toNat % 16 < 16:=by omega
  have c9:acc.length+2 < 140737488355328:=by omega
  have ih:=Alf l s (i+1) k (acc++[((Ed (c.toNat / 16)).toNat:Int),((Ed (c.toNat % 16)).toNat:Int)]) hd2 (by simp at hk;omega) (by simp at ha ⊢;omega) hs
  have e3:=of_decide_eq_true (List.all_eq_true.1 Ak7 (c.toNat / 16) (by rw [List.mem_range];exact c7))
  have e4:=of_decide_eq_true (List.all_eq_true.1 Ak7 (c.toNat % 16) (by rw [List.mem_range];exact c8))
  unfold Ep.l0
  rw [hz,Q0 hc,e1,e2,if_pos c1,if_pos c2,if_pos c3,if_pos c4,if_pos c5,if_pos c6,Option.bind_some,e3,e4,ew]
  refine (if_pos c9).trans ?_
  rw [ih]
  simp [numsOf,hx]
theorem strOfNums_nums (l:List UInt8):strOfNums (numsOf l)=⟨l.toArray⟩:=by
 unfold strOfNums numsOf
 have e:(l.map fun c=>(c.toNat:Int)).map (fun n=>UInt8.ofNat n.toNat)=l:=by
  rw [List.map_map]
  conv=>rhs;rw [← List.map_id l]
  refine List.map_congr_left fun c _=>?_
  simp
 rw [e]
theorem An4 {l:List UInt8} (hl:l.length≤40):Ev PG Ae7 [.str l] (.str (hx l)):=by
 have h:=Alf l l 0 100 [] rfl (by omega) (by simp;omega) (by omega)
 rw [List.nil_append,strOfNums_nums] at h
 refine Ev.ofCalls (N1 _ (by kernel_rfl)) fun X w vs a1 a2 a3=>?_
 obtain ⟨u,rfl,r1⟩:=Ajw a1 a2
 rw [r1.str_inv]
 refine (Ep.calls 100 ⟨l.toArray⟩ _ w h).mono ?_
 rintro e w' ⟨he,bel⟩
 exact ⟨⟨_,he, .str ⟨(hx l).toArray⟩⟩,bel⟩
end Go.Proofs.YtdlkibeljkapeaaGreatDoor.Den
namespace Go.Proofs.YtdlkibeljkapeaaGreatDoor.Den
open Go Go.RowKit
theorem Ax5:A0 (.atom 3) (Am PG (Aj An [.prim Ae7 [.atom 0] (.atom 1), .op (.bin .add Ar) [.str [120,39], .atom 1] (.atom 2), .op (.bin .add Ar) [.atom 2, .str [39]] (.atom 3)]) 10 G2 [.agg [nI 5,nI 0,nI 0, .atom 0]] [])=true:=by kernel_rfl
theorem Aoh {l:List UInt8} (hl:l.length≤40):Ev PG G2 [vP (5,0,0,l)] (.str ([120,39]++hx l++[39])):=by
 have h:=Q1 l
 exact Ev.facts (nu:=Ab [.str l, .str (hx l), .str ([120,39]++hx l), .str ([120,39]++hx l++[39])]) (args:=[.agg [nI 5,nI 0,nI 0, .atom 0]]) Af (Ap rfl) (As Ax5) ⟨Ai (An4 hl) rfl rfl rfl,Ax (l:=[120,39]) (m:=hx l) rfl rfl (by simp;omega) rfl rfl,Ax (l:=[120,39]++hx l) (m:=[39]) rfl rfl (by simp;omega) rfl rfl,trivial⟩ rfl rfl
def hexL:List UInt8:=[48,49,50,51,52,53,54,55,56,57,97,98,99,100,101,102]
def ryT:List (Nat × PV):=[(1, .box 0 0),(3, .atom 1),(4, .atom 2)]
def Qd:List Aa:=[.box [nI 5,nI 0,nI 0, .atom 0]]
def ryA (b:Bool):List Ao:=[.op (.len Ar) [.atom 0] (.atom 3),oI .lss (.atom 2) (.atom 3) (.bool b)]
def ryB:List Ao:=[.op (.index Ar) [.atom 0, .atom 2] (.atom 4), .op (.bin .shr Ey) [.atom 4, .int .u64 4] (.atom 5), .op (.bin .add Ey) [.atom 5, .int .u8 1] (.atom 6), .op (.slice Ar true true) [.str hexL, .atom 5, .atom 6] (.atom 7), .op (.bin .add Ar) [.atom 1, .atom 7] (.atom 8),
 .op (.bin .and Ey) [.atom 4, .int .u8 15] (.atom 9), .op (.bin .add Ey) [.atom 9, .int .u8 1] (.atom 10), .op (.slice Ar true true) [.str hexL, .atom 9, .atom 10] (.atom 11), .op (.bin .add Ar) [.atom 8, .atom 11] (.atom 12),oI .add (.atom 2) (nI 1) (.atom 13)]
noncomputable abbrev Ak2 (fs:List Ao):Option (Ex × St):=Gv PG (Aj An fs) (Am PG (Aj An fs) 5) ((Aj An fs).loop Eg) 5 3 (Du PG Eg 12) ⟨ryT,Qd⟩
theorem Acl:Hj PG Eg 12=true:=by kernel_rfl
theorem Ayu:Dc (Ak2 (ryA false)) (.exit 1) [(1, .box 0 0),(3, .atom 1)] Qd=true:=by kernel_rfl
theorem Az1:Dc (Ak2 (ryA true++ryB)) .normal [(1, .box 0 0),(3, .atom 12),(4, .atom 13)] Qd=true:=by kernel_rfl
theorem Azn:A0 (.atom 2) (Am PG (Aj An [.loop Eg 12 [(1, .box 0 0),(3, .str [120,39]),(4,nI 0)] [.box [nI 5,nI 0,nI 0, .atom 0]] (.exit 1) [(1, .box 0 0),(3, .atom 1)] [.box [nI 5,nI 0,nI 0, .atom 0]], .op (.bin .add Ar) [.atom 1, .str [39]] (.atom 2)]) 10 Eg [.agg [nI 5,nI 0,nI 0, .atom 0]] [])=true:=by kernel_rfl
def nU (n:Nat):PV:=.int .u8 n
theorem Axk {nu:Nat→PV} {x r:PV} {n:Nat} (h1:subD nu x=nU n) (h2:subD nu r=nU (n / 16)) (h3:C9 nu r=true):Dz PG nu (.op (.bin .shr Ey) [x, .int .u64 4] r):=by
 refine ⟨?_,h3⟩
 show F5 PG .shr Ey (subD nu x) (.int .u64 4)=some (subD nu r)
 rw [h1,h2]
 show some (PV.int .u8 ((n:Int).fdiv (2 ^ (min (4:Int).toNat IntKind.u8.bits))))=some (PV.int .u8 ((n / 16:Nat):Int))
 rw [show (2:Int) ^ (min (4:Int).toNat IntKind.u8.bits)=16 from rfl,Int.fdiv_eq_ediv_of_nonneg _ (by decide)]
 rfl
theorem Avv:((List.range 256).all fun n=>decide (IntKind.u8.wrap (BitVec.ofInt IntKind.u8.bits (n:Int) &&& BitVec.ofInt IntKind.u8.bits 15).toNat=((n % 16:Nat):Int)))=true:=by decide +kernel
theorem Avb {nu:Nat→PV} {x r:PV} {n:Nat} (hn:n < 256) (h1:subD nu x=nU n) (h2:subD nu r=nU (n % 16)) (h3:C9 nu r=true):Dz PG nu (.op (.bin .and Ey) [x, .int .u8 15] r):=by
 refine ⟨?_,h3⟩
 show F5 PG .and Ey (subD nu x) (.int .u8 15)=some (subD nu r)
 rw [h1,h2]
 have h:=of_decide_eq_true (List.all_eq_true.1 Avv n (by rw [List.mem_range];exact hn))
 show some (PV.int .u8 (IntKind.u8.wrap (BitVec.ofInt IntKind.u8.bits (n:Int) &&& BitVec.ofInt IntKind.u8.bits 15).toNat))=_
 rw [h];rfl
theorem hexS:((List.range 16).all fun n=>decide ((hexL.take (n+1)).drop n=[Ed n]))=true:=by decide
theorem Ajk {nu:Nat→PV} {lo hi r:PV} {n:Nat} (hn:n < 16) (h2:subD nu lo=nU n) (h3:subD nu hi=nU (n+1)) (h4:subD nu r = .str [Ed n]) (h5:C9 nu r=true):Dz PG nu (.op (.slice Ar true true) [.str hexL,lo,hi] r):=by
 refine ⟨?_,h5⟩
 show Gq PG Ar (.str hexL) (some (subD nu lo)) (some (subD nu hi))=some (subD nu r)
 rw [h2,h3,h4]
 unfold Gq
 rw [Ov]
 have hl:hexL.length=16:=rfl
 have e1:Kv (some (nU (n+1))) hexL.length hexL.length=some (n+1):=by
  show (if 0≤((n+1:Nat):Int)∧((n+1:Nat):Int)≤(hexL.length:Int) then some (((n+1:Nat):Int).toNat) else none)=_
  rw [if_pos (by rw [hl];omega),Int.toNat_natCast]
 have e2:Kv (some (nU n)) (n+1) 0=some n:=by
  show (if 0≤(n:Int)∧(n:Int)≤((n+1:Nat):Int) then some ((n:Int).toNat) else none)=_
  rw [if_pos (by omega),Int.toNat_natCast]
 have hw:=of_decide_eq_true (List.all_eq_true.1 hexS n (by rw [List.mem_range];exact hn))
 simp only [Lp,e1,e2,hw]
def Alt (s acc:List UInt8) (i:Nat) (c:UInt8):List PV :=
 [.str s, .str acc,nI i,nI s.length,nB c,nU (c.toNat / 16),nU (c.toNat / 16+1), .str [Ed (c.toNat / 16)], .str (acc++[Ed (c.toNat / 16)]),nU (c.toNat % 16),nU (c.toNat % 16+1), .str [Ed (c.toNat % 16)], .str (acc++[Ed (c.toNat / 16)]++[Ed (c.toNat % 16)]),nI (i+1:Nat)]
set_option maxRecDepth 20000 in
theorem Atm {s:List UInt8} (hs:s.length≤1000):∀ (l:List UInt8) (acc:List UInt8) (i:Nat),s.drop i=l→i≤s.length→acc.length≤2*i+2 →
  By PG (Fq PG Eg) (Du PG Eg 12) [(1, .box 0 0),(3, .str acc),(4,nI i)] [.box [nI 5,nI 0,nI 0, .str s]] (.exit 1) [(1, .box 0 0),(3, .str (acc++hx l))] [.box [nI 5,nI 0,nI 0, .str s]]:=by
 intro l
 induction l with
 | nil =>
  intro acc i hi h1 ha
  have hlen:s.length≤i:=by
   have:=congrArg List.length hi
   simp at this;omega
  have e:acc++hx []=acc:=List.append_nil acc
  rw [e]
  refine By.leave ?_ (fun h=>by cases h)
  exact Ci.chk (nu:=Ab (Alt s acc i 0)) Af (Ap rfl) (T:=ryT) (s:=Qd) (T':=[(1, .box 0 0),(3, .atom 1)]) (s':=Qd) Acl Ayu
   ⟨C2 rfl rfl rfl,Av (c:=false) (a:=i) (b:=s.length) rfl rfl rfl (by simp only [Aq];rw [decide_eq_false (by omega)]) (by decide) rfl,trivial⟩ rfl rfl rfl
 | cons c l ih =>
  intro acc i hi h1 ha
  obtain ⟨hil,hx'⟩:=D7 hi
  have hl:s.drop (i+1)=l:=by
   have:=congrArg List.tail hi
   simpa using this
  have e4:IntKind.i64.wrap ((i:Int)+1)=((i+1:Nat):Int):=by rw [Dn (by omega) (by omega)];omega
  have hc256:=c.toNat_lt
  have eu:∀ n:Nat,n < 16→IntKind.u8.wrap ((n:Int)+1)=((n+1:Nat):Int):=fun n hn=>by rw [Go.IntWalk.u8_in _ ⟨by omega,by omega⟩];omega
  have h:=ih (acc++[Ed (c.toNat / 16)]++[Ed (c.toNat % 16)]) (i+1) hl (by omega) (by simp;omega)
  have e:acc++[Ed (c.toNat / 16)]++[Ed (c.toNat % 16)]++hx l=acc++hx (c::l):=by simp [hx]
  rw [e] at h
  refine By.round ?_ h
  exact Ci.chk (nu:=Ab (Alt s acc i c)) Af (Ap rfl) (T:=ryT) (s:=Qd) (T':=[(1, .box 0 0),(3, .atom 12),(4, .atom 13)]) (s':=Qd) Acl Az1
   (Ah.append ⟨C2 rfl rfl rfl,Av (c:=true) (a:=i) (b:=s.length) rfl rfl rfl (by simp only [Aq];rw [decide_eq_true (by omega)]) (by decide) rfl,trivial⟩
   ⟨G4 rfl rfl hx' rfl rfl,Axk rfl rfl rfl,Ef (a:=((c.toNat / 16:Nat):Int)) (b:=1) (p:=nU (c.toNat / 16+1)) rfl rfl (by simp only [Aq];rw [eu _ (by omega)];rfl) rfl (by decide) rfl,Ajk (n:=c.toNat / 16) (by omega) rfl rfl rfl rfl,Ax (l:=acc) (m:=[Ed (c.toNat / 16)]) rfl rfl (by simp;omega) rfl rfl,
    Avb hc256 rfl rfl rfl,Ef (a:=((c.toNat % 16:Nat):Int)) (b:=1) (p:=nU (c.toNat % 16+1)) rfl rfl (by simp only [Aq];rw [eu _ (by omega)];rfl) rfl (by decide) rfl,Ajk (n:=c.toNat % 16) (by omega) rfl rfl rfl rfl,Ax (l:=acc++[Ed (c.toNat / 16)]) (m:=[Ed (c.toNat % 16)]) rfl rfl (by simp;omega) rfl rfl,
    Bm (a:=i) (b:=1) rfl rfl rfl (by simp only [Aq];rw [e4]) (by decide) rfl,trivial⟩) rfl rfl rfl
theorem Aov {l:List UInt8} (hl:l.length≤40):Ev PG Eg [vP (5,0,0,l)] (.str ([120,39]++hx l++[39])):=by
 have h:=Atm (s:=l) (by omega) l [120,39] 0 rfl (Nat.zero_le _) (by simp)
 have he:=Q1 l
 exact Ev.facts (nu:=Ab [.str l, .str ([120,39]++hx l), .str ([120,39]++hx l++[39])]) (args:=[.agg [nI 5,nI 0,nI 0, .atom 0]]) Af (Ap rfl) (As Azn) ⟨Ho Acl (Nat.le_refl _) h rfl,Ax (l:=[120,39]++hx l) (m:=[39]) rfl rfl (by simp;omega) rfl rfl,trivial⟩ rfl rfl
open Go Go.RowKit
open Go.Proofs.YtdlkibeljkapeaaGreatDoor.B
open Go.Proofs.YtdlkibeljkapeaaGreatDoorW.PrintWords (bt)
theorem Ady:((List.range 16).all fun v=>decide (Kx.f ((Ed v).toNat:Int)=some true∧Lj.f ((Ed v).toNat:Int)=some (v:Int)))=true:=by decide +kernel
theorem orQ:((List.range 256).all fun n=>decide (Go.bits .or .u8 ((((n / 16:Nat):Int)*16) % 256) ((n % 16:Nat):Int)=(n:Int)))=true:=by decide +kernel
theorem Ayc:Kx.f 39=some false:=by decide +kernel
theorem Xx (s:List UInt8):((⟨s.toArray⟩:ByteArray).size:Int)=s.length:=by show ((s.toArray.size:Nat):Int)=_;simp
theorem Ale:∀ (m s rest:List UInt8) (j k:Nat),(∀ c∈m,Kx.f (c.toNat:Int)=some true)→s.drop j=m++39::rest→m.length < k→s.length≤4000→G1.l0 k ⟨s.toArray⟩ j=some ((j+m.length:Nat):Int)
 | [],s,rest,j,k,_,hd,hk,hs=>by
  obtain ⟨k,rfl⟩:∃ i,k=i+1:=⟨k - 1,by omega⟩
  obtain ⟨hil,hc⟩:=D7 hd
  have c1:(j:Int) < (s.length:Int):=by omega
  have c2:(0:Int)≤(j:Int):=by omega
  unfold G1.l0
  rw [Xx,Q0 hc,if_pos c1,if_pos c2,show ((39:UInt8).toNat:Int)=39 from rfl,Ayc,Option.bind_some,if_neg (by decide)]
  rfl
 | c::m,s,rest,j,k,hm,hd,hk,hs=>by
  obtain ⟨k,rfl⟩:∃ i,k=i+1:=⟨k - 1,by simp at hk;omega⟩
  obtain ⟨hil,hc⟩:=D7 (show s.drop j=c::(m++39::rest) from hd)
  have hd2:s.drop (j+1)=m++39::rest:=B6 (g:=[c]) hd
  have c1:(j:Int) < (s.length:Int):=by omega
  have c2:(0:Int)≤(j:Int):=by omega
  have ew:wrap64 ((j:Int)+1)=((j+1:Nat):Int):=by rw [wrap64_of (by omega) (by omega)];omega
  have ih:=Ale m s rest (j+1) k (fun d hd=>hm d (by simp [hd])) hd2 (by simp at hk;omega) hs
  have hx:=hm c (by simp)
  unfold G1.l0
  rw [Xx,Q0 hc,if_pos c1,if_pos c2,hx,Option.bind_some,if_pos rfl,ew,ih]
  congr 2
  rw [List.length_cons];omega
theorem Acp:∀ (l:List UInt8),∀ c∈hx l,Kx.f (c.toNat:Int)=some true
 | [],c,hc=>by cases hc
 | d::l,c,hc=>by
  have hd:=d.toNat_lt
  have q:∀ v,v < 16→Kx.f ((Ed v).toNat:Int)=some true:=fun v hv=>(of_decide_eq_true (List.all_eq_true.1 Ady v (by rw [List.mem_range];exact hv))).1
  simp only [hx,List.mem_cons] at hc
  rcases hc with rfl|rfl|hc
  ·exact q _ (by omega)
  ·exact q _ (by omega)
  ·exact Acp l c hc
theorem Ala (s:List UInt8) (hs:s.length≤4000) (t a:Nat) (ht:t < s.length) (st:List UInt8) (hst:st.length≤40):∀ (l:List UInt8) (j k:Nat) (acc:List UInt8),s.drop j=hx l++s.drop t→j+2*l.length=t→l.length+50 < k→acc++l=st →
  C0.l0 k ⟨s.toArray⟩ t (numsOf acc) j 0 a ⟨#[]⟩ 0 0 0 ⟨#[]⟩ 0=some (4,(a:Int),⟨#[]⟩,5,0,0,⟨st.toArray⟩,0,((t+1:Nat):Int))
 | [],j,k,acc,hd,hj,hk,ha=>by
  obtain ⟨k,rfl⟩:∃ i,k=i+1:=⟨k - 1,by omega⟩
  have ha:acc=st:=by simpa using ha
  subst ha
  have c1:¬ (j:Int) < (t:Int):=by simp at hj;omega
  have ew:wrap64 ((t:Int)+1)=((t+1:Nat):Int):=by rw [wrap64_of (by omega) (by omega)];omega
  have hr:rightB 5 0 0 ⟨acc.toArray⟩=true:=by
   unfold rightB
   rw [if_neg (by decide),if_neg (by decide),if_neg (by decide),if_neg (by decide),if_neg (by decide),if_pos rfl]
   exact decide_eq_true ⟨rfl,rfl,by simpa using hst⟩
  unfold C0.l0 To.f
  rw [if_neg c1,strOfNums_nums,val_Right_eq k 5 0 0 ⟨acc.toArray⟩ (by simp at hk;omega),hr,Option.bind_some,if_pos rfl,Option.bind_some,ew]
 | c::l,j,k,acc,hd,hj,hk,ha=>by
  obtain ⟨k,rfl⟩:∃ i,k=i+1:=⟨k - 1,by simp at hk;omega⟩
  have hc256:=c.toNat_lt
  simp only [List.length_cons] at hj hk
  have hd0:s.drop j=Ed (c.toNat / 16)::(Ed (c.toNat % 16)::(hx l++s.drop t)):=hd
  obtain ⟨hil,hc⟩:=D7 hd0
  have hd1:s.drop (j+1)=Ed (c.toNat % 16)::(hx l++s.drop t):=B6 (g:=[Ed (c.toNat / 16)]) hd0
  obtain ⟨hil2,hc2⟩:=D7 hd1
  have hd2:s.drop (j+2)=hx l++s.drop t:=B6 (g:=[Ed (c.toNat % 16)]) hd1
  have c1:(j:Int) < (t:Int):=by omega
  have c2:(0:Int)≤(j:Int):=by omega
  have c3:(j:Int) < (s.length:Int):=by omega
  have ew:wrap64 ((j:Int)+1)=((j+1:Nat):Int):=by rw [wrap64_of (by omega) (by omega)];omega
  have ew2:wrap64 ((j:Int)+2)=((j+2:Nat):Int):=by rw [wrap64_of (by omega) (by omega)];omega
  have c4:(0:Int)≤((j+1:Nat):Int):=by omega
  have c5:((j+1:Nat):Int) < (s.length:Int):=by omega
  have hal:acc.length≤40:=by have:=congrArg List.length ha;simp at this;omega
  have c6:(numsOf acc).length < 140737488355328:=by unfold numsOf;rw [List.length_map];omega
  have hv1:c.toNat / 16 < 16:=by omega
  have hv2:c.toNat % 16 < 16:=by omega
  have ih:=Ala s hs t a ht st hst l (j+2) k (acc++[c]) hd2 (by omega) (by omega) (by rw [← ha];simp)
  have e:numsOf (acc++[c])=numsOf acc++[(c.toNat:Int)]:=by simp [numsOf]
  rw [e] at ih
  have n1:=(of_decide_eq_true (List.all_eq_true.1 Ady (c.toNat / 16) (by rw [List.mem_range];exact hv1))).2
  have n2:=(of_decide_eq_true (List.all_eq_true.1 Ady (c.toNat % 16) (by rw [List.mem_range];exact hv2))).2
  have no:=of_decide_eq_true (List.all_eq_true.1 orQ c.toNat (by rw [List.mem_range];exact hc256))
  unfold C0.l0
  rw [if_pos c1,if_pos c2,Xx,if_pos c3,Q0 hc,n1,Option.bind_some,ew,if_pos c4,if_pos c5,Q0 hc2,n2,Option.bind_some,if_pos c6,no,ew2,ih]
theorem Asa (s:List UInt8) (hs:s.length≤4000) (i:Nat) {l rest:List UInt8} (hl:l.length≤40) (hd:s.drop i=120::39::(hx l++39::rest)) :
  C0.f 400 ⟨s.toArray⟩ 0 i ⟨#[]⟩ 0 0 0 ⟨#[]⟩ 0=some (4,(i:Int),⟨#[]⟩,5,0,0,⟨l.toArray⟩,0,((i+(2*l.length+3):Nat):Int)):=by
 have hd2:s.drop (i+2)=hx l++39::rest:=by
  have h1:s.drop (i+1)=39::(hx l++39::rest):=B6 (g:=[120]) hd
  exact B6 (g:=[39]) h1
 have hlen:=Q1 l
 have hd3:s.drop (i+2+2*l.length)=39::rest:=by
  have:=B6 hd2
  rw [hlen] at this
  exact this
 obtain ⟨hil,hc⟩:=D7 hd3
 have ew:wrap64 ((i:Int)+2)=((i+2:Nat):Int):=by rw [wrap64_of (by omega) (by omega)];omega
 have hp:=Ale (hx l) s rest (i+2) 400 (Acp l) hd2 (by omega) hs
 rw [hlen] at hp
 have ew2:wrap64 (((i+2+2*l.length:Nat):Int) - ((i+2:Nat):Int))=((2*l.length:Nat):Int):=by rw [wrap64_of (by omega) (by omega)];omega
 have c1:Int.tmod ((2*l.length:Nat):Int) 2=0:=by rw [Int.tmod_eq_emod_of_nonneg (by omega)];omega
 have c2:¬ ((i+2+2*l.length:Nat):Int)=(s.length:Int):=by omega
 have c3:(0:Int)≤((i+2+2*l.length:Nat):Int):=by omega
 have c4:((i+2+2*l.length:Nat):Int) < (s.length:Int):=by omega
 have hlo:=Ala s hs (i+2+2*l.length) i hil l hl l (i+2) 399 [] (by rw [hd2,hd3]) rfl (by omega) rfl
 unfold C0.f G1.f
 rw [ew,hp,Option.bind_some,ew2,if_pos c1,Xx,if_neg c2,if_pos c3,if_pos c4,Q0 hc]
 have hj:∀ k x0 x6 x7 a b c d e f g h,C0.j0 (k+1) x0 x6 x7 false a b c d e f g h=C0.l0 k x0 x7 [] x6 a b c d e f g h:=fun k x0 x6 x7 a b c d e f g h=>by
  unfold C0.j0
  exact if_neg (by decide)
 have e:((i+(2*l.length+3):Nat):Int)=((i+2+2*l.length+1:Nat):Int):=by omega
 rw [e]
 exact (hj 399 _ _ _ _ _ _ _ _ _ _ _).trans hlo
theorem Asq {X:Ag} {v:Value} {i:Nat} (h:R X (Ir 0 i [] 0) v):v = .agg #[.int .i64 0, .int .i64 (i:Int), .string ⟨#[]⟩, .int .i64 0, .int .i64 0, .int .i64 0, .string ⟨#[]⟩, .int .i64 0]:=by
 obtain ⟨vs,rfl,hs,hr⟩:∃ vs,v = .agg vs∧vs.size=8∧∀ (j:Nat) c,[nI 0,nI i, .str [],nI 0,nI 0,nI 0, .str [],nI 0][j]? = some c→R X c (vs.getD j Go.undef):=by
  cases h with
  | agg cs vs h1 h2 h3=>exact ⟨vs,rfl,h1,h2⟩
 obtain ⟨l⟩:=vs
 match l,hs with
 | [a,b,c,d,e,f,g,k],_ =>
  have h0:=(hr 0 _ rfl).int_inv
  have h1:=(hr 1 _ rfl).int_inv
  have h2:=(hr 2 _ rfl).str_inv
  have h3:=(hr 3 _ rfl).int_inv
  have h4:=(hr 4 _ rfl).int_inv
  have h5:=(hr 5 _ rfl).int_inv
  have h6:=(hr 6 _ rfl).str_inv
  have h7:=(hr 7 _ rfl).int_inv
  simp at h0 h1 h2 h3 h4 h5 h6 h7
  subst h0 h1 h2 h3 h4 h5 h6 h7
  rfl
theorem Aqm {s:List UInt8} (hs:s.length≤4000) (i:Nat) {l rest:List UInt8} (hl:l.length≤40) (hd:s.drop i=120::39::(hx l++39::rest)) :
  Ev PG Afq [.str s,Ir 0 i [] 0] (.tup [Sg.pv ⟨4,i,[],(5,0,0,l),0⟩,nI (i+(2*l.length+3):Nat)]):=by
 have h:=Asa s hs i hl hd
 refine Ev.ofCalls (N1 _ (by kernel_rfl)) fun X w vs a1 a2 a3=>?_
 obtain ⟨u,v,rfl,r1,r2⟩:=X9 a1 a2
 have hv:v = .agg #[.int .i64 0, .int .i64 (i:Int), .string ⟨#[]⟩, .int .i64 0, .int .i64 0, .int .i64 0, .string ⟨#[]⟩, .int .i64 0]:=by
  exact Asq r2
 rw [r1.str_inv,hv]
 refine (C0.calls 400 ⟨s.toArray⟩ 0 i ⟨#[]⟩ 0 0 0 ⟨#[]⟩ 0 _ _ _ _ _ _ _ _ _ w h).mono ?_
 rintro e w' ⟨he,bel⟩
 refine ⟨⟨_,he,?_⟩,bel⟩
 refine .tup _ _ rfl fun j p hp=>?_
 match j,hp with
 | 1,hp=>cases hp;exact .int _ _
 | 0,hp =>
  cases hp
  refine .agg _ _ rfl (fun j c hc=>?_) (fun v hv=>?_)
  ·match j,hc with
   | 0,hc=>cases hc;exact .int _ _
   | 1,hc=>cases hc;exact .int _ _
   | 2,hc=>cases hc;exact .str ⟨#[]⟩
   | 3,hc=>cases hc;exact .int _ _
   | 4,hc=>cases hc;exact .int _ _
   | 5,hc=>cases hc;exact .int _ _
   | 6,hc=>cases hc;exact .str ⟨l.toArray⟩
   | 7,hc=>cases hc;exact .int _ _
  ·simp at hv
   rcases hv with rfl|rfl|rfl|rfl|rfl|rfl|rfl|rfl<;>rfl
open Go Go.RowKit
def rbF:List Ao:=Zn++[bI .eql (.atom 4) 120 true,oI .add (.atom 2) (nI 1) (.atom 5),oI .lss (.atom 5) (.atom 3) (.bool true), .op (.index Ar) [.atom 0, .atom 5] (.atom 6),bI .eql (.atom 6) 39 true, .prim Afq [.atom 0,Jo (.atom 2)] Ss]
theorem A0o:A0 Ss (Am PG (Aj An rbF) 20 Iw [.atom 0, .atom 1] [])=true:=by kernel_rfl
section
variable {s:List UInt8} {i:Nat} {g:List UInt8}
theorem Aqk (hs:s.length≤4000) (hi:i≤s.length) {l rest:List UInt8} (h:s.drop i=g++(120::39::(hx l++39::rest))) (hg:g.all Bf=true) (hl:l.length≤40):Rd s i (Yn (5,0,0,l) (i+g.length)) (i+g.length+(2*l.length+3)):=by
 have hp:=Wl (s:=s) (by omega) i hi
 rw [Jt h hg rfl] at hp
 have hd:=B6 h
 obtain ⟨hil,hc⟩:=D7 hd
 have hd2:s.drop (i+g.length+1)=39::(hx l++39::rest):=B6 (g:=[120]) hd
 obtain ⟨hil2,hc2⟩:=D7 hd2
 have hb:=Aqm hs (i+g.length) hl hd
 have hne:¬ ((i+g.length:Nat):Int)=(s.length:Int):=by omega
 have e5:IntKind.i64.wrap (((i+g.length:Nat):Int)+1)=((i+g.length+1:Nat):Int):=by rw [Dn (by omega) (by omega)];omega
 refine ⟨?_,rfl,by show (4:Int)≠6;decide⟩
 exact Ev.facts (nu:=Ab (Vh s i (i+g.length) 120 39 (Yn (5,0,0,l) (i+g.length)) (i+g.length+(2*l.length+3)))) (args:=[.atom 0, .atom 1]) Af (Ap rfl) (As A0o)
  (Ah.append ⟨Ai hp rfl rfl rfl,C2 rfl rfl rfl,Av (c:=false) (a:=(i+g.length:Nat)) (b:=s.length) rfl rfl rfl (by show some (PV.bool (((i+g.length:Nat):Int)==(s.length:Int)))=_;rw [beq_eq_false_iff_ne.2 hne]) (by decide) rfl,G4 rfl rfl hc rfl rfl,trivial⟩
  ⟨Ef (a:=(120:Nat)) (b:=(120:Nat)) rfl rfl (Gz (c:=120) (n:=120) (b:=true) (by decide) rfl) rfl (by decide) rfl,Bm (a:=(i+g.length:Nat)) (b:=1) rfl rfl rfl (by simp only [Aq];rw [e5]) (by decide) rfl,Av (c:=true) (a:=(i+g.length+1:Nat)) (b:=s.length) rfl rfl rfl (by simp only [Aq];rw [decide_eq_true (by omega)]) (by decide) rfl,
   G4 (n:=i+g.length+1) rfl rfl hc2 rfl rfl,Ef (a:=(39:Nat)) (b:=(39:Nat)) rfl rfl (Gz (c:=39) (n:=39) (b:=true) (by decide) rfl) rfl (by decide) rfl,Ai hb rfl rfl rfl,trivial⟩) rfl rfl
def K1 (s:List UInt8) (i j:Nat) (v:V4):Prop:=∃ y tu,Rd s i y tu∧Bn y (kw "not")=false∧∀ dp z tz,Rd s j z tz→Lx s y tu dp v z tz
def Gu:List UInt8→Bool
 | []=>true
 | c::_=>c==41||c==32||c==44||c==59||c==10
theorem M9:∀ {rest:List UInt8},Gu rest=true→Jw Fo rest=true∧Jw isDigit rest=true∧rest[0]? ≠ some 46∧rest[0]? ≠ some 39
 | [],_=>⟨rfl,rfl,by simp,by simp⟩
 | c::r,h=>by
  simp only [Gu,Bool.or_eq_true,beq_iff_eq] at h
  rcases h with (((rfl|rfl)|rfl)|rfl)|rfl<;>exact ⟨rfl,rfl,by simp,by simp⟩
variable (hs:s.length≤4000) (hi:i≤s.length) (hg:g.all Bf=true) {rest:List UInt8} (hr:Gu rest=true)
include hs hi hg hr
theorem Ark (h:s.drop i=g++(([110,117,108,108]:List UInt8)++rest)):K1 s i (i+g.length+4) v0:=by
 obtain ⟨h1,_,_,_⟩:=M9 hr
 have hrd:=Ky (s:=s) (by omega) hi (c:=110) (w:=[117,108,108]) h hg rfl rfl h1 (fun h=>absurd h (by decide)) (by decide)
 have e:Eq (110::[117,108,108]) (i+g.length)=⟨1,(i+g.length:Nat),kw "null", v0,0⟩:=by
  have:Bq.contains (110::[117,108,108])=true:=by kernel_rfl
  unfold Eq
  rw [this];rfl
 rw [e] at hrd
 exact ⟨_,_,hrd,rfl,fun dp z tz hz=>Aop dp rfl rfl rfl (show (1:Int)≠4 by decide) (show (1:Int)≠3 by decide) hz⟩
theorem Aim (h:s.drop i=g++(([116,114,117,101]:List UInt8)++rest)):K1 s i (i+g.length+4) (1,1,0,[]):=by
 obtain ⟨h1,_,_,_⟩:=M9 hr
 have hrd:=Ky (s:=s) (by omega) hi (c:=116) (w:=[114,117,101]) h hg rfl rfl h1 (fun h=>absurd h (by decide)) (by decide)
 have e:Eq (116::[114,117,101]) (i+g.length)=⟨1,(i+g.length:Nat),kw "true", v0,0⟩:=by
  have:Bq.contains (116::[114,117,101])=true:=by kernel_rfl
  unfold Eq
  rw [this];rfl
 rw [e] at hrd
 exact ⟨_,_,hrd,rfl,fun dp z tz hz=>Aoj dp rfl rfl rfl (show (1:Int)≠4 by decide) (show (1:Int)≠3 by decide) hz⟩
theorem Apa (h:s.drop i=g++(([102,97,108,115,101]:List UInt8)++rest)):K1 s i (i+g.length+5) (1,0,0,[]):=by
 obtain ⟨h1,_,_,_⟩:=M9 hr
 have hrd:=Ky (s:=s) (by omega) hi (c:=102) (w:=[97,108,115,101]) h hg rfl rfl h1 (fun h=>absurd h (by decide)) (by decide)
 have e:Eq (102::[97,108,115,101]) (i+g.length)=⟨1,(i+g.length:Nat),kw "false", v0,0⟩:=by
  have:Bq.contains (102::[97,108,115,101])=true:=by kernel_rfl
  unfold Eq
  rw [this];rfl
 rw [e] at hrd
 exact ⟨_,_,hrd,rfl,fun dp z tz hz=>Anw dp rfl rfl rfl (show (1:Int)≠4 by decide) (show (1:Int)≠3 by decide) hz⟩
theorem Aqq {l:List UInt8} (hl:l.length≤40) (hok:l.all F4=true) (h:s.drop i=g++((39::(Bv l++[39]))++rest)):K1 s i (i+g.length+(39::(Bv l++[39])).length) (4,0,0,l):=by
 obtain ⟨_,_,_,h4⟩:=M9 hr
 have hrd:=Atu (s:=s) (by omega) hi (l:=l) (rest:=rest) (by rw [h];simp) hg hl hok h4
 have e:i+g.length+(39::(Bv l++[39])).length=i+g.length+(Bv l).length+2:=by simp;omega
 rw [e]
 exact ⟨_,_,hrd,rfl,fun dp z tz hz=>Afh dp rfl rfl hz⟩
omit hr in
theorem Apq {l:List UInt8} (hl:l.length≤40) (h:s.drop i=g++(([120,39]++hx l++[39])++rest)):K1 s i (i+g.length+([120,39]++hx l++[39]).length) (5,0,0,l):=by
 have hrd:=Aqk hs hi (l:=l) (rest:=rest) (by rw [h];simp) hg hl
 have e:i+g.length+([120,39]++hx l++[39]).length=i+g.length+(2*l.length+3):=by simp [Q1]
 rw [e]
 exact ⟨_,_,hrd,rfl,fun dp z tz hz=>Afh dp rfl rfl hz⟩
end
open Go Go.RowKit
section
variable {s:List UInt8} {i:Nat} {g:List UInt8} (hs:s.length≤4000) (hi:i≤s.length) (hg:g.all Bf=true) {rest:List UInt8} (hr:Gu rest=true)
include hs hi hg hr
theorem Ajf {n:Int} (hn : -9223372036854775808≤n∧n≤9223372036854775807) (h:s.drop i=g++((Br n++A9 n 0)++rest)):K1 s i (i+g.length+(Br n++A9 n 0).length) (2,n,0,[]):=by
 obtain ⟨_,h2,h3,_⟩:=M9 hr
 obtain ⟨hd1,_⟩:=O2 (k:=0) hn (by decide)
 obtain ⟨hl1,hl⟩:=Jv (n:=n) (k:=0) hn (by decide)
 obtain ⟨hnum,_⟩:=Aca (n:=n) (k:=0) hn (by decide)
 have hw:A9 n 0=Eb n 0:=by unfold A9;rw [Nat.sub_zero,List.take_length]
 have hv:Ej (Cc (A9 n 0)) 0 = -(n.natAbs:Int):=by rw [Aas,hw,hnum]
 have hwl:1≤(A9 n 0).length∧(A9 n 0).length≤100:=by rw [hw];exact ⟨by omega,hl⟩
 have m1:=Ahk true (s:=A9 n 0) (by omega) hd1 (by rw [hv];omega) (fun h=>by cases h)
 rw [hv] at m1
 obtain ⟨c,w,hcw⟩:∃ c w,A9 n 0=c::w:=by
  cases hcw:A9 n 0 with
  | nil=>rw [hcw] at hwl;simp at hwl
  | cons c w=>exact ⟨c,w,rfl⟩
 by_cases h0:n≥0
 ·have hsg:Br n=[]:=if_pos h0
  have m2:=Ahk false (s:=A9 n 0) (by omega) hd1 (by rw [hv];omega) (fun _=>by rw [hv];omega)
  rw [hv] at m2
  have hvv:I4 false (-(n.natAbs:Int))=n:=by show - -(n.natAbs:Int)=n;omega
  rw [hvv] at m2
  rw [hsg,List.nil_append] at h ⊢
  rw [hcw] at h hd1 m1 m2 ⊢
  have r1:=Akm (s:=s) (by omega) hi h hg hd1 h2 h3 m1
  exact ⟨_,_,r1,rfl,fun dp z tz hz=>Ago dp rfl m2 hz⟩
 ·have hsg:Br n=[45]:=if_neg h0
  have hvv:I4 true (-(n.natAbs:Int))=n:=by show -(n.natAbs:Int)=n;omega
  rw [hvv] at m1
  rw [hsg] at h ⊢
  rw [hcw] at h hd1 m1 ⊢
  have h':s.drop i=g++(Be 9++((c::w)++rest)):=by rw [h];rfl
  have r0:=H9 (s:=s) (by omega) hi 9 (by decide) (by decide) h' hg
  have h1:=B6 (g:=Be 9) (B6 h')
  have hil:=(D7 (show s.drop (i+g.length+1)=c::(w++rest) from h1)).1
  have r1:=Akm (s:=s) (i:=i+g.length+1) (g:=[]) (by omega) (by omega) (by rw [List.nil_append];exact h1) rfl hd1 h2 h3 m1
  refine ⟨_,_,r0,rfl,fun dp z tz hz=>Agv dp rfl rfl rfl (show (5:Int)≠4 by decide) (show (5:Int)≠3 by decide) rfl r1 rfl m1 ?_⟩
  have e:i+g.length+1+([]:List UInt8).length+(w.length+1)=i+g.length+([45]++c::w).length:=by simp;omega
  rw [e]
  exact hz
theorem Atl {n:Int} {k:Nat} (hn : -1000000000000000 < n∧n < 1000000000000000) (hk:k≤6) (hm:k=0∨n.natAbs % 10≠0) (h:s.drop i=g++((Br n++A9 n k++46::Dm n k)++rest)):K1 s i (i+g.length+(Br n++A9 n k++46::Dm n k).length) (3,n,k,[]):=by
 obtain ⟨_,h2,_,_⟩:=M9 hr
 have hn' : -9223372036854775808≤n∧n≤9223372036854775807:=by omega
 obtain ⟨hd1,hd2⟩:=O2 hn' hk
 obtain ⟨hl1,hl⟩:=Jv hn' hk
 have hpt:(Dm n k).all isDigit=true:=by
  unfold Dm
  split
  ·rfl
  ·exact hd2
 have hptl:1≤(Dm n k).length:=by
  unfold Dm
  split
  ·simp
  ·rw [Qs hn' hk];omega
 have hwl:1≤(A9 n k).length:=by unfold A9;rw [List.length_take];omega
 have m1:=Ahd 0 0 true (by omega) (by omega) hn hk hm
 have m2:=Ahd 0 0 false (by omega) (by omega) hn hk hm
 have ez:(Dy 0++A9 n k)++46::(Dm n k++Dy 0)=A9 n k++46::Dm n k:=by simp [Dy]
 rw [ez] at m1 m2
 generalize A9 n k=W at *
 generalize Dm n k=P at *
 obtain ⟨c,w,rfl⟩:∃ c w,W=c::w:=by
  cases W with
  | nil=>simp at hwl
  | cons c w=>exact ⟨c,w,rfl⟩
 obtain ⟨d,p,rfl⟩:∃ d p,P=d::p:=by
  cases P with
  | nil=>simp at hptl
  | cons d p=>exact ⟨d,p,rfl⟩
 by_cases h0:n≥0
 ·have hsg:Br n=[]:=if_pos h0
  have hvv:I4 false (-(n.natAbs:Int))=n:=by show - -(n.natAbs:Int)=n;omega
  rw [hvv] at m2
  rw [hsg] at h ⊢
  have h':s.drop i=g++((c::w)++(46::((d::p)++rest))):=by rw [h];simp
  have r1:=rd_dec (s:=s) (by omega) hi h' hg hd1 hpt h2 m1
  have e:i+g.length+(w.length+1)+1+(p.length+1)=i+g.length+([]++c::w++46::d::p).length:=by simp;omega
  rw [e] at r1
  exact ⟨_,_,r1,rfl,fun dp z tz hz=>Ago dp rfl m2 hz⟩
 ·have hsg:Br n=[45]:=if_neg h0
  have hvv:I4 true (-(n.natAbs:Int))=n:=by show -(n.natAbs:Int)=n;omega
  rw [hvv] at m1
  rw [hsg] at h ⊢
  have h':s.drop i=g++(Be 9++((c::w)++(46::((d::p)++rest)))):=by rw [h];simp [Be,Pi]
  have r0:=H9 (s:=s) (by omega) hi 9 (by decide) (by decide) h' hg
  have h1:=B6 (g:=Be 9) (B6 h')
  have hil:=(D7 (show s.drop (i+g.length+1)=c::(w++(46::((d::p)++rest))) from h1)).1
  have r1:=rd_dec (s:=s) (i:=i+g.length+1) (g:=[]) (by omega) (by omega) (by rw [List.nil_append];exact h1) rfl hd1 hpt h2 m1
  refine ⟨_,_,r0,rfl,fun dp z tz hz=>Agv dp rfl rfl rfl (show (5:Int)≠4 by decide) (show (5:Int)≠3 by decide) rfl r1 rfl m1 ?_⟩
  have e:i+g.length+1+([]:List UInt8).length+(w.length+1)+1+(p.length+1)=i+g.length+([45]++c::w++46::d::p).length:=by simp;omega
  rw [e]
  exact hz
end
open Go Go.RowKit
open Go.Proofs.YtdlkibeljkapeaaGreatDoor.B
structure Ie (v:V4) (t:List UInt8):Prop where
 len:t.length≤200
 ne:t≠[]
 one:Ev PG G2 [Den.vP v] (.str t)
 two:Ev PG Eg [Den.vP v] (.str t)
 rd:∀ {s:List UInt8} {i:Nat} {g rest:List UInt8},s.length≤4000→i≤s.length→g.all Bf=true→Gu rest=true→s.drop i=g++(t++rest)→K1 s i (i+g.length+t.length) v
theorem Ayy:(A0 (.str [110,117,108,108]) (Am PG I3 10 G2 [Den.vP v0] [])&&A0 (.str [110,117,108,108]) (Am PG I3 10 Eg [Den.vP v0] []))=true:=by kernel_rfl
theorem Al0:(A0 (.str [116,114,117,101]) (Am PG I3 10 G2 [Den.vP (1,1,0,[])] [])&&A0 (.str [116,114,117,101]) (Am PG I3 10 Eg [Den.vP (1,1,0,[])] []))=true:=by kernel_rfl
theorem Ayv:(A0 (.str [102,97,108,115,101]) (Am PG I3 10 G2 [Den.vP (1,0,0,[])] [])&&A0 (.str [102,97,108,115,101]) (Am PG I3 10 Eg [Den.vP (1,0,0,[])] []))=true:=by kernel_rfl
theorem Nh {f:FuncId} {v:V4} {t:List UInt8} (h:A0 (.str t) (Am PG I3 10 f [Den.vP v] [])=true):Ev PG f [Den.vP v] (.str t) :=
 Ev.ofD (nu:=Ab []) (args:=[Den.vP v]) Af (Ap rfl) (Um PG _) (As h) (fun p hp=>by simp at hp;subst hp;exact ⟨rfl,rfl⟩) rfl rfl
def Gw:Bool→List UInt8→Option Bool
 | b,[]=>some b
 | b,c::t=>if c=39 then Gw (!b) t else if c=32∧b=false then none else Gw b t
def Hk (t:List UInt8):Prop:=Gw false t=some false
theorem Nl:∀ (a t:List UInt8) (b:Bool),Gw b (a++t)=(Gw b a).bind fun c=>Gw c t
 | [],t,b=>rfl
 | c::a,t,b=>by
  simp only [List.cons_append,Gw]
  split
  ·exact Nl a t _
  ·split
   ·rfl
   ·exact Nl a t _
theorem Aab (b:Bool):∀ (a:List UInt8),(∀ c∈a,c≠39∧c≠32)→Gw b a=some b
 | [],_=>rfl
 | c::a,h=>by
  have h1:=h c (by simp)
  simp only [Gw,if_neg h1.1,if_neg (show ¬ (c=32∧b=false) from fun e=>h1.2 e.1)]
  exact Aab b a fun d hd=>h d (by simp [hd])
theorem Ahi:∀ l:List UInt8,Gw true (Bv l)=some true
 | []=>rfl
 | c::l=>by
  have ih:=Ahi l
  by_cases h:c=39
  ·subst h
   rw [Py]
   exact ih
  ·rw [N5 h,show c::Bv l=[c]++Bv l from rfl,Nl]
   have:Gw true [c]=some true:=by simp [Gw,h]
   rw [this]
   exact ih
theorem Wb {a:List UInt8} (h:a.all isDigit=true) (n:Int):Hk (Br n++a):=by
 unfold Hk
 rw [Nl]
 have:Gw false (Br n)=some false:=by unfold Br;split<;>rfl
 rw [this]
 refine Aab false a fun c hc=>?_
 have hd:=List.all_eq_true.1 h c hc
 exact ⟨fun e=>by rw [e] at hd;exact absurd hd (by decide),fun e=>by rw [e] at hd;exact absurd hd (by decide)⟩
theorem Aps (l:List UInt8):Hk (39::(Bv l++[39])):=by
 show Gw true (Bv l++[39])=some false
 rw [Nl,Ahi]
 rfl
theorem An6 (l:List UInt8):Hk ([120,39]++hx l++[39]):=by
 unfold Hk
 rw [Nl,Nl]
 have h:Gw true (hx l)=some true:=Aab true _ fun c hc=>by
  have:=Acp l c hc
  exact ⟨fun e=>by rw [e] at this;revert this;decide,fun e=>by rw [e] at this;revert this;decide⟩
 show (Gw true (hx l)).bind _=_
 rw [h]
 rfl
theorem Aqr {n:Int} {a b:List UInt8} (ha:a.all isDigit=true) (hb:b.all isDigit=true):Hk (Br n++a++46::b):=by
 have h1:Gw false (Br n++a)=some false:=Wb ha n
 have h2:Gw false b=some false:=Wb hb 0
 show Gw false (Br n++a++46::b)=some false
 rw [Nl,h1]
 exact h2
theorem Alh {n:Int} {k:Nat} (hn : -9223372036854775808≤n∧n≤9223372036854775807) (hk:k≤6):Br n++A9 n k≠[]:=fun e=>by
 have h:=(List.append_eq_nil_iff.1 e).2
 have hl:=(Jv hn hk).1
 have:=congrArg List.length h
 unfold A9 at this
 rw [List.length_take,List.length_nil] at this
 omega
theorem Apo {kd N:Int} {S:Nat} {st:ByteArray} (hr:rightB kd N (S:Int) st=true) (h0:0≤kd) (h5:kd≤5) (hN:I64 N):∃ t,Ie (kd,N,(S:Nat),st.data.toList) t∧Hk t:=by
 have c:kd=0∨kd=1∨kd=2∨kd=3∨kd=4∨kd=5:=by omega
 have hno:noS st=true→st.data.toList=[]:=fun h7=>by
  unfold noS at h7
  rw [Lib.toList_data] at h7
  exact eq_of_beq h7
 unfold rightB at hr
 rcases c with rfl|rfl|rfl|rfl|rfl|rfl
 ·rw [if_pos rfl] at hr
  simp only [Bool.and_eq_true,beq_iff_eq] at hr
  obtain ⟨rfl,h2,h3⟩:=hr
  obtain rfl:S=0:=by omega
  rw [hno h3]
  have hk:=Ayy
  rw [Bool.and_eq_true] at hk
  exact ⟨_,⟨by simp,by simp,Nh hk.1,Nh hk.2,fun hs hi hg hr h=>Ark hs hi hg hr h⟩,rfl⟩
 ·rw [if_neg (by decide),if_pos rfl] at hr
  simp only [Bool.and_eq_true,beq_iff_eq,decide_eq_true_eq] at hr
  obtain ⟨h1,h2,h3⟩:=hr
  obtain rfl:S=0:=by omega
  rw [hno h3]
  have hn:N=0∨N=1:=by omega
  rcases hn with rfl|rfl
  ·have hk:=Ayv
   rw [Bool.and_eq_true] at hk
   exact ⟨_,⟨by simp,by simp,Nh hk.1,Nh hk.2,fun hs hi hg hr h=>Apa hs hi hg hr h⟩,rfl⟩
  ·have hk:=Al0
   rw [Bool.and_eq_true] at hk
   exact ⟨_,⟨by simp,by simp,Nh hk.1,Nh hk.2,fun hs hi hg hr h=>Aim hs hi hg hr h⟩,rfl⟩
 ·rw [if_neg (by decide),if_neg (by decide),if_pos rfl] at hr
  simp only [Bool.and_eq_true,beq_iff_eq] at hr
  obtain ⟨h2,h3⟩:=hr
  obtain rfl:S=0:=by omega
  rw [hno h3]
  have hn : -9223372036854775808≤N∧N≤9223372036854775807:=by unfold I64 at hN;omega
  have hl:=(Jv (n:=N) (k:=0) hn (by decide)).2
  have hw:(A9 N 0).length≤100:=by unfold A9;rw [List.length_take];omega
  have hsg:(Br N).length≤1:=by unfold Br;split<;>simp
  exact ⟨Br N++A9 N 0,⟨by rw [List.length_append];omega,Alh hn (by decide),Aii hn,Aho hn,fun hs hi hg hr h=>Ajf hs hi hg hr hn h⟩,Wb (O2 hn (by decide)).1 _⟩
 ·rw [if_neg (by decide),if_neg (by decide),if_neg (by decide),if_pos rfl] at hr
  simp only [Bool.and_eq_true,decide_eq_true_eq] at hr
  obtain ⟨⟨h1,h2,h4,h6,h7⟩,h3⟩:=hr
  rw [hno h3]
  have hn : -1000000000000000 < N∧N < 1000000000000000:=⟨h1,h2⟩
  have hk:S≤6:=by omega
  have hm:S=0∨N.natAbs % 10≠0:=by omega
  have hl:=(Jv (n:=N) (k:=S) (by omega) hk).2
  have hw:(A9 N S).length≤100:=by unfold A9;rw [List.length_take];omega
  have hp:(Dm N S).length≤90:=by
   unfold Dm
   split
   ·simp
   ·rw [Qs (by omega) hk];omega
  have hsg:(Br N).length≤1:=by unfold Br;split<;>simp
  have hpt':(Dm N S).all isDigit=true:=by
   unfold Dm
   split
   ·rfl
   ·exact (O2 (by omega) hk).2
  exact ⟨Br N++A9 N S++46::Dm N S,⟨by simp;omega,by simp,Arh hn hk,Are hn hk,fun hs hi hg hr h=>Atl hs hi hg hr hn hk hm h⟩,Aqr (O2 (by omega) hk).1 hpt'⟩
 ·rw [if_neg (by decide),if_neg (by decide),if_neg (by decide),if_neg (by decide),if_pos rfl] at hr
  simp only [Bool.and_eq_true,decide_eq_true_eq] at hr
  obtain ⟨⟨rfl,h2,h3⟩,h4⟩:=hr
  obtain rfl:S=0:=by omega
  have hl:st.data.toList.length≤40:=by simpa using h3
  have hok:st.data.toList.all F4=true:=by
   unfold okB at h4
   rw [List.all_eq_true] at h4 ⊢
   intro c hc
   have:=of_decide_eq_true (h4 c hc)
   simp only [F4,Bool.and_eq_true,decide_eq_true_eq]
   exact this
  have he:=Xb st.data.toList
  exact ⟨39::(Bv st.data.toList++[39]),⟨by simp;omega,by simp,Apr hl,Apx hl,fun hs hi hg hr h=>Aqq hs hi hg hr hl hok h⟩,Aps _⟩
 ·rw [if_neg (by decide),if_neg (by decide),if_neg (by decide),if_neg (by decide),if_neg (by decide),if_pos rfl] at hr
  simp only [decide_eq_true_eq] at hr
  obtain ⟨rfl,h2,h3⟩:=hr
  obtain rfl:S=0:=by omega
  have hl:st.data.toList.length≤40:=by simpa using h3
  have he:=Q1 st.data.toList
  exact ⟨[120,39]++hx st.data.toList++[39],⟨by simp;omega,by simp,Aoh hl,Aov hl,fun hs hi hg hr h=>Apq hs hi hg hl h⟩,An6 _⟩
theorem Abz {kd N:Int} {S:Nat} {st:ByteArray} (h:Made kd N S st) (hN:I64 N):∃ t,Ie (kd,N,(S:Nat),st.data.toList) t∧Hk t:=Apo h.r h.k0 h.k5 hN
open Go Go.RowKit
open Go.Proofs.YtdlkibeljkapeaaGreatDoor.B
def Im:List UInt8:=[32,105,115,32,110,117,108,108]
theorem A0j (a:Nat):Eq (105::[115]) a=⟨1,a,kw "is", v0,0⟩:=by
 have:Bq.contains (105::[115])=true:=by kernel_rfl
 unfold Eq
 rw [this];rfl
theorem Au4 (a:Nat):Eq (110::[117,108,108]) a=⟨1,a,kw "null", v0,0⟩:=by
 have:Bq.contains (110::[117,108,108])=true:=by kernel_rfl
 unfold Eq
 rw [this];rfl
end Go.Proofs.YtdlkibeljkapeaaGreatDoor.Den
