-- Written by drive.py and pack.py (programs of this proof's own) through the kit's printer; not trusted: Lean checks it.
import Derived.Test.YtglffgneikoeaaaCEvalAll4
import Derived.Test.YtglffgneikoeaaaCEvalAll5
import Derived.Test.YtglffgneikoeaaaCEvalAll7
import Derived.Test.YtglffgneikoeaaaCEvalAll6
namespace Go.Proofs.Ytglffgneikoeaaa.M
open Go.RowKit Go.Proofs.YtglffgneikoeaaaW.PrintWords Go.Proofs.YtglffgneikoeaaaW.PrintLast Go.Proofs.YtglffgneikoeaaaW.PrintMore
attribute [local go_sem] max2_int min2_int max_two min_two max_three min_three max_four min_four
attribute [local go_sem high] own_gtr own_leq own_geq own_cell_set Option.map_some
set_option linter.unusedVariables false
set_option linter.unusedSimpArgs false
def A1e.f (k:Nat) (a0_0:Int) (a0_1:Int) (a0_2:Int) (a0_3:ByteArray) (a1_0:Int) (a1_1:Int) (a1_2:Int) (a1_3:ByteArray):Option (Int × Int × Int × Bool):=(Ad2.f k (wrap64 ((mx a0_2 a1_2) - a0_2))).bind fun t103=>((Ad2.f k (wrap64 ((mx a0_2 a1_2) - a1_2))).bind fun t104=>(if t103 = 0 then (none) else (if (mx a0_1 (wrap64 (-a0_1))) > (wrap64 (Int.tdiv (4611686018427387904:Int) t103)) then (some (0,0,0,false)) else (if t104 = 0 then (none) else (if (mx a1_1 (wrap64 (-a1_1))) > (wrap64 (Int.tdiv (4611686018427387904:Int) t104)) then (some (0,0,0,false)) else (some (wrap64 (a0_1 * t103),wrap64 (a1_1 * t104),mx a0_2 a1_2,true)))))))
set_option maxHeartbeats 8000000 in
set_option maxRecDepth 100000 in
theorem A1e.calls (k:Nat) (a0_0:Int) (a0_1:Int) (a0_2:Int) (a0_3:ByteArray) (a1_0:Int) (a1_1:Int) (a1_2:Int) (a1_3:ByteArray) (r1:Int) (r2:Int) (r3:Int) (r4:Bool) (w:World) (h:A1e.f k a0_0 a0_1 a0_2 a0_3 a1_0 a1_1 a1_2 a1_3 = some (r1,r2,r3,r4)) :
  Calls Try.prog 93 #[.agg #[.int .i64 a0_0, .int .i64 a0_1, .int .i64 a0_2, .string a0_3], .agg #[.int .i64 a1_0, .int .i64 a1_1, .int .i64 a1_2, .string a1_3]] w fun e w'=>e = .returned (.tuple #[.int .i64 r1, .int .i64 r2, .int .i64 r3, .bool r4]) ∧ Below w.heap.size w w':=by
 have hu28:=Try.underlying28
 have HB:=z_ (Below.refl w.heap.size w)
 have H:((Ad2.f k (wrap64 ((mx a0_2 a1_2) - a0_2))).bind fun t103=>((Ad2.f k (wrap64 ((mx a0_2 a1_2) - a1_2))).bind fun t104=>(if t103 = 0 then (none) else (if (mx a0_1 (wrap64 (-a0_1))) > (wrap64 (Int.tdiv (4611686018427387904:Int) t103)) then (some (0,0,0,false)) else (if t104 = 0 then (none) else (if (mx a1_1 (wrap64 (-a1_1))) > (wrap64 (Int.tdiv (4611686018427387904:Int) t104)) then (some (0,0,0,false)) else (some (wrap64 (a0_1 * t103),wrap64 (a1_1 * t104),mx a0_2 a1_2,true)))))))) = some (r1,r2,r3,r4):=h
 clear h
 obtain ⟨ji3,hji3⟩:∃ j_:Int,(mx a0_2 a1_2) = j_:=⟨_,rfl⟩
 replace H:((Ad2.f k (wrap64 ((ji3) - a0_2))).bind fun t103=>((Ad2.f k (wrap64 ((ji3) - a1_2))).bind fun t104=>(if t103 = 0 then (none) else (if (mx a0_1 (wrap64 (-a0_1))) > (wrap64 (Int.tdiv (4611686018427387904:Int) t103)) then (some (0,0,0,false)) else (if t104 = 0 then (none) else (if (mx a1_1 (wrap64 (-a1_1))) > (wrap64 (Int.tdiv (4611686018427387904:Int) t104)) then (some (0,0,0,false)) else (some (wrap64 (a0_1 * t103),wrap64 (a1_1 * t104),ji3,true)))))))) = some (r1,r2,r3,r4):=by first|(rw [hji3] at H;exact H)|(simp only [hji3] at H ⊢;exact H)
 have hji3_:(if a0_2 < a1_2 then a1_2 else a0_2) = ji3:=hji3
 replace H:=Option.bind_eq_some_iff.mp H
 obtain ⟨t103,A40,H⟩:=H
 replace H:((Ad2.f k (wrap64 ((ji3) - a1_2))).bind fun t104=>(if t103 = 0 then (none) else (if (mx a0_1 (wrap64 (-a0_1))) > (wrap64 (Int.tdiv (4611686018427387904:Int) t103)) then (some (0,0,0,false)) else (if t104 = 0 then (none) else (if (mx a1_1 (wrap64 (-a1_1))) > (wrap64 (Int.tdiv (4611686018427387904:Int) t104)) then (some (0,0,0,false)) else (some (wrap64 (a0_1 * t103),wrap64 (a1_1 * t104),ji3,true))))))) = some (r1,r2,r3,r4):=H
 have A4:=z_ A40
 clear A40
 replace H:=Option.bind_eq_some_iff.mp H
 obtain ⟨t104,A50,H⟩:=H
 replace H:(if t103 = 0 then (none) else (if (mx a0_1 (wrap64 (-a0_1))) > (wrap64 (Int.tdiv (4611686018427387904:Int) t103)) then (some (0,0,0,false)) else (if t104 = 0 then (none) else (if (mx a1_1 (wrap64 (-a1_1))) > (wrap64 (Int.tdiv (4611686018427387904:Int) t104)) then (some (0,0,0,false)) else (some (wrap64 (a0_1 * t103),wrap64 (a1_1 * t104),ji3,true)))))) = some (r1,r2,r3,r4):=H
 have A5:=z_ A50
 clear A50
 obtain ⟨ji6,hji6⟩:∃ j_:Int,(mx a0_1 (wrap64 (-a0_1))) = j_:=⟨_,rfl⟩
 replace H:(if t103 = 0 then (none) else (if (ji6) > (wrap64 (Int.tdiv (4611686018427387904:Int) t103)) then (some (0,0,0,false)) else (if t104 = 0 then (none) else (if (mx a1_1 (wrap64 (-a1_1))) > (wrap64 (Int.tdiv (4611686018427387904:Int) t104)) then (some (0,0,0,false)) else (some (wrap64 (a0_1 * t103),wrap64 (a1_1 * t104),ji3,true)))))) = some (r1,r2,r3,r4):=by first|(rw [hji6] at H;exact H)|(simp only [hji6] at H ⊢;exact H)
 (try rw [hji6] at A4)
 (try rw [hji6] at A5)
 have hji6_:(if a0_1 < (wrap64 (-a0_1)) then (wrap64 (-a0_1)) else a0_1) = ji6:=hji6
 by_cases c7:t103 = 0
 ·rw [if_pos c7] at H
  exact absurd H (by simp)
 ·rw [if_neg c7] at H
  have c7b0:(t103 == 0) = false:=beq_eq_false_iff_ne.mpr c7
  have c7b1:(t103 != 0) = true:=bne_iff_ne.mpr c7
  by_cases c8:(ji6) > (wrap64 (Int.tdiv (4611686018427387904:Int) t103))
  ·rw [if_pos c8] at H
   have c8b0:decide ((wrap64 (Int.tdiv (4611686018427387904:Int) t103)) < (ji6)) = true:=decide_eq_true c8
   clear c8
   simp only [Option.some.injEq,Prod.mk.injEq] at H
   obtain ⟨rfl,rfl,rfl,rfl⟩:=H
   go_enter Try.func93,Try.ntmps93
   go_wp2_with (first|((with_reducible refine gate_dst (N:=2) rfl ?_);(try (refine gate_guard (by rfl) ?_;dsimp only));refine box_event (by rfl) (N:=2) (by rfl) (cs:=#[.int .i64 a0_0, .int .i64 a0_1, .int .i64 a0_2, .string a0_3]) (t:=28) W3 ?_;intro gb101 hg w9 hbox hb;have BK101:=z_ (hbox);have GW101:=z_ ((W0:w.heap.size ≤ gb101));have GE101:=z_ ((W0:w.heap.size ≤ gb101));replace HB:=z_ (below_step W5 hb);clear hb hbox hg)|((with_reducible refine gate_dst (N:=3) rfl ?_);(try (refine gate_guard (by rfl) ?_;dsimp only));refine box_event (by rfl) (N:=3) (by rfl) (cs:=#[.int .i64 a1_0, .int .i64 a1_1, .int .i64 a1_2, .string a1_3]) (t:=28) W3 ?_;intro gb102 hg w10 hbox hb;have BK102:=z_ (hbox);have GW102:=z_ ((W6:w.heap.size ≤ gb102));have GE102:=z_ ((W6:w.heap.size ≤ gb102));replace HB:=z_ (below_step zp1 hb);have NB101_102:=z_ ((Amm:gb101 ≠ gb102));have NB102_101:=z_ ((Aml:gb102 ≠ gb101));replace BK101:=z_ (zk BK101.out hb);clear hb hbox hg;have hnb11:=NB101_102.out;have hnc11:=NB102_101.out;obtain ⟨_,_,_,_,_,_,_,_⟩:=Rr BK101.out;obtain ⟨_,_,_,_,_,_,_,_⟩:=Rr BK102.out)|(go_at_call 97;(with_reducible refine (Ad2.calls k (wrap64 ((ji3) - a0_2)) t103 _ A4.out).mono ?_);rintro e w' ⟨rfl,⟨nd,rfl⟩⟩;(try first|exact ⟨rfl,_,World.drewN_drewN _ _ _⟩|exact ⟨rfl,_,Eq.trans (World.drewN_drewN _ _ _) (congrArg (World.drewN _) (Nat.add_assoc _ _ _))⟩))|(go_at_call 97;(with_reducible refine (Ad2.calls k (wrap64 ((ji3) - a1_2)) t104 _ A5.out).mono ?_);rintro e w' ⟨rfl,⟨nd,rfl⟩⟩;(try first|exact ⟨rfl,_,World.drewN_drewN _ _ _⟩|exact ⟨rfl,_,Eq.trans (World.drewN_drewN _ _ _) (congrArg (World.drewN _) (Nat.add_assoc _ _ _))⟩)))
   repeat (go_quiet (first|((with_reducible refine gate_dst (N:=2) rfl ?_);(try (refine gate_guard (by rfl) ?_;dsimp only));refine box_event (by rfl) (N:=2) (by rfl) (cs:=#[.int .i64 a0_0, .int .i64 a0_1, .int .i64 a0_2, .string a0_3]) (t:=28) W3 ?_;intro gb101 hg w9 hbox hb;have BK101:=z_ (hbox);have GW101:=z_ ((W0:w.heap.size ≤ gb101));have GE101:=z_ ((W0:w.heap.size ≤ gb101));replace HB:=z_ (below_step W5 hb);clear hb hbox hg)|((with_reducible refine gate_dst (N:=3) rfl ?_);(try (refine gate_guard (by rfl) ?_;dsimp only));refine box_event (by rfl) (N:=3) (by rfl) (cs:=#[.int .i64 a1_0, .int .i64 a1_1, .int .i64 a1_2, .string a1_3]) (t:=28) W3 ?_;intro gb102 hg w10 hbox hb;have BK102:=z_ (hbox);have GW102:=z_ ((W6:w.heap.size ≤ gb102));have GE102:=z_ ((W6:w.heap.size ≤ gb102));replace HB:=z_ (below_step zp1 hb);have NB101_102:=z_ ((Amm:gb101 ≠ gb102));have NB102_101:=z_ ((Aml:gb102 ≠ gb101));replace BK101:=z_ (zk BK101.out hb);clear hb hbox hg;have hnb11:=NB101_102.out;have hnc11:=NB102_101.out;obtain ⟨_,_,_,_,_,_,_,_⟩:=Rr BK101.out;obtain ⟨_,_,_,_,_,_,_,_⟩:=Rr BK102.out)|(go_at_call 97;(with_reducible refine (Ad2.calls k (wrap64 ((ji3) - a0_2)) t103 _ A4.out).mono ?_);rintro e w' ⟨rfl,⟨nd,rfl⟩⟩;(try first|exact ⟨rfl,_,World.drewN_drewN _ _ _⟩|exact ⟨rfl,_,Eq.trans (World.drewN_drewN _ _ _) (congrArg (World.drewN _) (Nat.add_assoc _ _ _))⟩))|(go_at_call 97;(with_reducible refine (Ad2.calls k (wrap64 ((ji3) - a1_2)) t104 _ A5.out).mono ?_);rintro e w' ⟨rfl,⟨nd,rfl⟩⟩;(try first|exact ⟨rfl,_,World.drewN_drewN _ _ _⟩|exact ⟨rfl,_,Eq.trans (World.drewN_drewN _ _ _) (congrArg (World.drewN _) (Nat.add_assoc _ _ _))⟩)));try go_wp2_with (first|((with_reducible refine gate_dst (N:=2) rfl ?_);(try (refine gate_guard (by rfl) ?_;dsimp only));refine box_event (by rfl) (N:=2) (by rfl) (cs:=#[.int .i64 a0_0, .int .i64 a0_1, .int .i64 a0_2, .string a0_3]) (t:=28) W3 ?_;intro gb101 hg w9 hbox hb;have BK101:=z_ (hbox);have GW101:=z_ ((W0:w.heap.size ≤ gb101));have GE101:=z_ ((W0:w.heap.size ≤ gb101));replace HB:=z_ (below_step W5 hb);clear hb hbox hg)|((with_reducible refine gate_dst (N:=3) rfl ?_);(try (refine gate_guard (by rfl) ?_;dsimp only));refine box_event (by rfl) (N:=3) (by rfl) (cs:=#[.int .i64 a1_0, .int .i64 a1_1, .int .i64 a1_2, .string a1_3]) (t:=28) W3 ?_;intro gb102 hg w10 hbox hb;have BK102:=z_ (hbox);have GW102:=z_ ((W6:w.heap.size ≤ gb102));have GE102:=z_ ((W6:w.heap.size ≤ gb102));replace HB:=z_ (below_step zp1 hb);have NB101_102:=z_ ((Amm:gb101 ≠ gb102));have NB102_101:=z_ ((Aml:gb102 ≠ gb101));replace BK101:=z_ (zk BK101.out hb);clear hb hbox hg;have hnb11:=NB101_102.out;have hnc11:=NB102_101.out;obtain ⟨_,_,_,_,_,_,_,_⟩:=Rr BK101.out;obtain ⟨_,_,_,_,_,_,_,_⟩:=Rr BK102.out)|(go_at_call 97;(with_reducible refine (Ad2.calls k (wrap64 ((ji3) - a0_2)) t103 _ A4.out).mono ?_);rintro e w' ⟨rfl,⟨nd,rfl⟩⟩;(try first|exact ⟨rfl,_,World.drewN_drewN _ _ _⟩|exact ⟨rfl,_,Eq.trans (World.drewN_drewN _ _ _) (congrArg (World.drewN _) (Nat.add_assoc _ _ _))⟩))|(go_at_call 97;(with_reducible refine (Ad2.calls k (wrap64 ((ji3) - a1_2)) t104 _ A5.out).mono ?_);rintro e w' ⟨rfl,⟨nd,rfl⟩⟩;(try first|exact ⟨rfl,_,World.drewN_drewN _ _ _⟩|exact ⟨rfl,_,Eq.trans (World.drewN_drewN _ _ _) (congrArg (World.drewN _) (Nat.add_assoc _ _ _))⟩))))
   refine bodyPost_ret (results_list (rs:=[.tmp 4, .tmp 5, .tmp 6, .tmp 7]) rfl (by simp) (.tmp (.tmp (.tmp (.tmp .nil))))) rfl ?_
   exact ⟨by first|rfl|(simp [errW_none,errW_some] <;> rfl)|(simp only [← hji3,← hji6];first|rfl|(simp [errW_none,errW_some] <;> rfl))|(simp [*,errW_none,errW_some] <;> rfl),by repeat first|(with_reducible first|exact HB.out|apply zA|apply zN|apply z1|refine zS ?_ GE101.out|refine zS ?_ GE102.out)|exact HB.out⟩
  ·rw [if_neg c8] at H
   have c8b0:decide ((wrap64 (Int.tdiv (4611686018427387904:Int) t103)) < (ji6)) = false:=decide_eq_false c8
   clear c8
   obtain ⟨ji14,hji14⟩:∃ j_:Int,(mx a1_1 (wrap64 (-a1_1))) = j_:=⟨_,rfl⟩
   replace H:(if t104 = 0 then (none) else (if (ji14) > (wrap64 (Int.tdiv (4611686018427387904:Int) t104)) then (some (0,0,0,false)) else (some (wrap64 (a0_1 * t103),wrap64 (a1_1 * t104),ji3,true)))) = some (r1,r2,r3,r4):=by first|(rw [hji14] at H;exact H)|(simp only [hji14] at H ⊢;exact H)
   (try rw [hji14] at A4)
   (try rw [hji14] at A5)
   have hji14_:(if a1_1 < (wrap64 (-a1_1)) then (wrap64 (-a1_1)) else a1_1) = ji14:=hji14
   by_cases c15:t104 = 0
   ·rw [if_pos c15] at H
    exact absurd H (by simp)
   ·rw [if_neg c15] at H
    have c15b0:(t104 == 0) = false:=beq_eq_false_iff_ne.mpr c15
    have c15b1:(t104 != 0) = true:=bne_iff_ne.mpr c15
    by_cases c16:(ji14) > (wrap64 (Int.tdiv (4611686018427387904:Int) t104))
    ·rw [if_pos c16] at H
     have c16b0:decide ((wrap64 (Int.tdiv (4611686018427387904:Int) t104)) < (ji14)) = true:=decide_eq_true c16
     clear c16
     simp only [Option.some.injEq,Prod.mk.injEq] at H
     obtain ⟨rfl,rfl,rfl,rfl⟩:=H
     go_enter Try.func93,Try.ntmps93
     go_wp2_with (first|((with_reducible refine gate_dst (N:=2) rfl ?_);(try (refine gate_guard (by rfl) ?_;dsimp only));refine box_event (by rfl) (N:=2) (by rfl) (cs:=#[.int .i64 a0_0, .int .i64 a0_1, .int .i64 a0_2, .string a0_3]) (t:=28) W3 ?_;intro gb101 hg w17 hbox hb;have BK101:=z_ (hbox);have GW101:=z_ ((W0:w.heap.size ≤ gb101));have GE101:=z_ ((W0:w.heap.size ≤ gb101));replace HB:=z_ (below_step W5 hb);clear hb hbox hg)|((with_reducible refine gate_dst (N:=3) rfl ?_);(try (refine gate_guard (by rfl) ?_;dsimp only));refine box_event (by rfl) (N:=3) (by rfl) (cs:=#[.int .i64 a1_0, .int .i64 a1_1, .int .i64 a1_2, .string a1_3]) (t:=28) W3 ?_;intro gb102 hg w18 hbox hb;have BK102:=z_ (hbox);have GW102:=z_ ((W6:w.heap.size ≤ gb102));have GE102:=z_ ((W6:w.heap.size ≤ gb102));replace HB:=z_ (below_step zp1 hb);have NB101_102:=z_ ((Amm:gb101 ≠ gb102));have NB102_101:=z_ ((Aml:gb102 ≠ gb101));replace BK101:=z_ (zk BK101.out hb);clear hb hbox hg;have hnb19:=NB101_102.out;have hnc19:=NB102_101.out;obtain ⟨_,_,_,_,_,_,_,_⟩:=Rr BK101.out;obtain ⟨_,_,_,_,_,_,_,_⟩:=Rr BK102.out)|(go_at_call 97;(with_reducible refine (Ad2.calls k (wrap64 ((ji3) - a0_2)) t103 _ A4.out).mono ?_);rintro e w' ⟨rfl,⟨nd,rfl⟩⟩;(try first|exact ⟨rfl,_,World.drewN_drewN _ _ _⟩|exact ⟨rfl,_,Eq.trans (World.drewN_drewN _ _ _) (congrArg (World.drewN _) (Nat.add_assoc _ _ _))⟩))|(go_at_call 97;(with_reducible refine (Ad2.calls k (wrap64 ((ji3) - a1_2)) t104 _ A5.out).mono ?_);rintro e w' ⟨rfl,⟨nd,rfl⟩⟩;(try first|exact ⟨rfl,_,World.drewN_drewN _ _ _⟩|exact ⟨rfl,_,Eq.trans (World.drewN_drewN _ _ _) (congrArg (World.drewN _) (Nat.add_assoc _ _ _))⟩)))
     repeat (go_quiet (first|((with_reducible refine gate_dst (N:=2) rfl ?_);(try (refine gate_guard (by rfl) ?_;dsimp only));refine box_event (by rfl) (N:=2) (by rfl) (cs:=#[.int .i64 a0_0, .int .i64 a0_1, .int .i64 a0_2, .string a0_3]) (t:=28) W3 ?_;intro gb101 hg w17 hbox hb;have BK101:=z_ (hbox);have GW101:=z_ ((W0:w.heap.size ≤ gb101));have GE101:=z_ ((W0:w.heap.size ≤ gb101));replace HB:=z_ (below_step W5 hb);clear hb hbox hg)|((with_reducible refine gate_dst (N:=3) rfl ?_);(try (refine gate_guard (by rfl) ?_;dsimp only));refine box_event (by rfl) (N:=3) (by rfl) (cs:=#[.int .i64 a1_0, .int .i64 a1_1, .int .i64 a1_2, .string a1_3]) (t:=28) W3 ?_;intro gb102 hg w18 hbox hb;have BK102:=z_ (hbox);have GW102:=z_ ((W6:w.heap.size ≤ gb102));have GE102:=z_ ((W6:w.heap.size ≤ gb102));replace HB:=z_ (below_step zp1 hb);have NB101_102:=z_ ((Amm:gb101 ≠ gb102));have NB102_101:=z_ ((Aml:gb102 ≠ gb101));replace BK101:=z_ (zk BK101.out hb);clear hb hbox hg;have hnb19:=NB101_102.out;have hnc19:=NB102_101.out;obtain ⟨_,_,_,_,_,_,_,_⟩:=Rr BK101.out;obtain ⟨_,_,_,_,_,_,_,_⟩:=Rr BK102.out)|(go_at_call 97;(with_reducible refine (Ad2.calls k (wrap64 ((ji3) - a0_2)) t103 _ A4.out).mono ?_);rintro e w' ⟨rfl,⟨nd,rfl⟩⟩;(try first|exact ⟨rfl,_,World.drewN_drewN _ _ _⟩|exact ⟨rfl,_,Eq.trans (World.drewN_drewN _ _ _) (congrArg (World.drewN _) (Nat.add_assoc _ _ _))⟩))|(go_at_call 97;(with_reducible refine (Ad2.calls k (wrap64 ((ji3) - a1_2)) t104 _ A5.out).mono ?_);rintro e w' ⟨rfl,⟨nd,rfl⟩⟩;(try first|exact ⟨rfl,_,World.drewN_drewN _ _ _⟩|exact ⟨rfl,_,Eq.trans (World.drewN_drewN _ _ _) (congrArg (World.drewN _) (Nat.add_assoc _ _ _))⟩)));try go_wp2_with (first|((with_reducible refine gate_dst (N:=2) rfl ?_);(try (refine gate_guard (by rfl) ?_;dsimp only));refine box_event (by rfl) (N:=2) (by rfl) (cs:=#[.int .i64 a0_0, .int .i64 a0_1, .int .i64 a0_2, .string a0_3]) (t:=28) W3 ?_;intro gb101 hg w17 hbox hb;have BK101:=z_ (hbox);have GW101:=z_ ((W0:w.heap.size ≤ gb101));have GE101:=z_ ((W0:w.heap.size ≤ gb101));replace HB:=z_ (below_step W5 hb);clear hb hbox hg)|((with_reducible refine gate_dst (N:=3) rfl ?_);(try (refine gate_guard (by rfl) ?_;dsimp only));refine box_event (by rfl) (N:=3) (by rfl) (cs:=#[.int .i64 a1_0, .int .i64 a1_1, .int .i64 a1_2, .string a1_3]) (t:=28) W3 ?_;intro gb102 hg w18 hbox hb;have BK102:=z_ (hbox);have GW102:=z_ ((W6:w.heap.size ≤ gb102));have GE102:=z_ ((W6:w.heap.size ≤ gb102));replace HB:=z_ (below_step zp1 hb);have NB101_102:=z_ ((Amm:gb101 ≠ gb102));have NB102_101:=z_ ((Aml:gb102 ≠ gb101));replace BK101:=z_ (zk BK101.out hb);clear hb hbox hg;have hnb19:=NB101_102.out;have hnc19:=NB102_101.out;obtain ⟨_,_,_,_,_,_,_,_⟩:=Rr BK101.out;obtain ⟨_,_,_,_,_,_,_,_⟩:=Rr BK102.out)|(go_at_call 97;(with_reducible refine (Ad2.calls k (wrap64 ((ji3) - a0_2)) t103 _ A4.out).mono ?_);rintro e w' ⟨rfl,⟨nd,rfl⟩⟩;(try first|exact ⟨rfl,_,World.drewN_drewN _ _ _⟩|exact ⟨rfl,_,Eq.trans (World.drewN_drewN _ _ _) (congrArg (World.drewN _) (Nat.add_assoc _ _ _))⟩))|(go_at_call 97;(with_reducible refine (Ad2.calls k (wrap64 ((ji3) - a1_2)) t104 _ A5.out).mono ?_);rintro e w' ⟨rfl,⟨nd,rfl⟩⟩;(try first|exact ⟨rfl,_,World.drewN_drewN _ _ _⟩|exact ⟨rfl,_,Eq.trans (World.drewN_drewN _ _ _) (congrArg (World.drewN _) (Nat.add_assoc _ _ _))⟩))))
     refine bodyPost_ret (results_list (rs:=[.tmp 4, .tmp 5, .tmp 6, .tmp 7]) rfl (by simp) (.tmp (.tmp (.tmp (.tmp .nil))))) rfl ?_
     exact ⟨by first|rfl|(simp [errW_none,errW_some] <;> rfl)|(simp only [← hji3,← hji6,← hji14];first|rfl|(simp [errW_none,errW_some] <;> rfl))|(simp [*,errW_none,errW_some] <;> rfl),by repeat first|(with_reducible first|exact HB.out|apply zA|apply zN|apply z1|refine zS ?_ GE101.out|refine zS ?_ GE102.out)|exact HB.out⟩
    ·rw [if_neg c16] at H
     have c16b0:decide ((wrap64 (Int.tdiv (4611686018427387904:Int) t104)) < (ji14)) = false:=decide_eq_false c16
     clear c16
     simp only [Option.some.injEq,Prod.mk.injEq] at H
     obtain ⟨rfl,rfl,rfl,rfl⟩:=H
     go_enter Try.func93,Try.ntmps93
     go_wp2_with (first|((with_reducible refine gate_dst (N:=2) rfl ?_);(try (refine gate_guard (by rfl) ?_;dsimp only));refine box_event (by rfl) (N:=2) (by rfl) (cs:=#[.int .i64 a0_0, .int .i64 a0_1, .int .i64 a0_2, .string a0_3]) (t:=28) W3 ?_;intro gb101 hg w22 hbox hb;have BK101:=z_ (hbox);have GW101:=z_ ((W0:w.heap.size ≤ gb101));have GE101:=z_ ((W0:w.heap.size ≤ gb101));replace HB:=z_ (below_step W5 hb);clear hb hbox hg)|((with_reducible refine gate_dst (N:=3) rfl ?_);(try (refine gate_guard (by rfl) ?_;dsimp only));refine box_event (by rfl) (N:=3) (by rfl) (cs:=#[.int .i64 a1_0, .int .i64 a1_1, .int .i64 a1_2, .string a1_3]) (t:=28) W3 ?_;intro gb102 hg w23 hbox hb;have BK102:=z_ (hbox);have GW102:=z_ ((W6:w.heap.size ≤ gb102));have GE102:=z_ ((W6:w.heap.size ≤ gb102));replace HB:=z_ (below_step zp1 hb);have NB101_102:=z_ ((Amm:gb101 ≠ gb102));have NB102_101:=z_ ((Aml:gb102 ≠ gb101));replace BK101:=z_ (zk BK101.out hb);clear hb hbox hg;have hnb24:=NB101_102.out;have hnc24:=NB102_101.out;obtain ⟨_,_,_,_,_,_,_,_⟩:=Rr BK101.out;obtain ⟨_,_,_,_,_,_,_,_⟩:=Rr BK102.out)|(go_at_call 97;(with_reducible refine (Ad2.calls k (wrap64 ((ji3) - a0_2)) t103 _ A4.out).mono ?_);rintro e w' ⟨rfl,⟨nd,rfl⟩⟩;(try first|exact ⟨rfl,_,World.drewN_drewN _ _ _⟩|exact ⟨rfl,_,Eq.trans (World.drewN_drewN _ _ _) (congrArg (World.drewN _) (Nat.add_assoc _ _ _))⟩))|(go_at_call 97;(with_reducible refine (Ad2.calls k (wrap64 ((ji3) - a1_2)) t104 _ A5.out).mono ?_);rintro e w' ⟨rfl,⟨nd,rfl⟩⟩;(try first|exact ⟨rfl,_,World.drewN_drewN _ _ _⟩|exact ⟨rfl,_,Eq.trans (World.drewN_drewN _ _ _) (congrArg (World.drewN _) (Nat.add_assoc _ _ _))⟩)))
     repeat (go_quiet (first|((with_reducible refine gate_dst (N:=2) rfl ?_);(try (refine gate_guard (by rfl) ?_;dsimp only));refine box_event (by rfl) (N:=2) (by rfl) (cs:=#[.int .i64 a0_0, .int .i64 a0_1, .int .i64 a0_2, .string a0_3]) (t:=28) W3 ?_;intro gb101 hg w22 hbox hb;have BK101:=z_ (hbox);have GW101:=z_ ((W0:w.heap.size ≤ gb101));have GE101:=z_ ((W0:w.heap.size ≤ gb101));replace HB:=z_ (below_step W5 hb);clear hb hbox hg)|((with_reducible refine gate_dst (N:=3) rfl ?_);(try (refine gate_guard (by rfl) ?_;dsimp only));refine box_event (by rfl) (N:=3) (by rfl) (cs:=#[.int .i64 a1_0, .int .i64 a1_1, .int .i64 a1_2, .string a1_3]) (t:=28) W3 ?_;intro gb102 hg w23 hbox hb;have BK102:=z_ (hbox);have GW102:=z_ ((W6:w.heap.size ≤ gb102));have GE102:=z_ ((W6:w.heap.size ≤ gb102));replace HB:=z_ (below_step zp1 hb);have NB101_102:=z_ ((Amm:gb101 ≠ gb102));have NB102_101:=z_ ((Aml:gb102 ≠ gb101));replace BK101:=z_ (zk BK101.out hb);clear hb hbox hg;have hnb24:=NB101_102.out;have hnc24:=NB102_101.out;obtain ⟨_,_,_,_,_,_,_,_⟩:=Rr BK101.out;obtain ⟨_,_,_,_,_,_,_,_⟩:=Rr BK102.out)|(go_at_call 97;(with_reducible refine (Ad2.calls k (wrap64 ((ji3) - a0_2)) t103 _ A4.out).mono ?_);rintro e w' ⟨rfl,⟨nd,rfl⟩⟩;(try first|exact ⟨rfl,_,World.drewN_drewN _ _ _⟩|exact ⟨rfl,_,Eq.trans (World.drewN_drewN _ _ _) (congrArg (World.drewN _) (Nat.add_assoc _ _ _))⟩))|(go_at_call 97;(with_reducible refine (Ad2.calls k (wrap64 ((ji3) - a1_2)) t104 _ A5.out).mono ?_);rintro e w' ⟨rfl,⟨nd,rfl⟩⟩;(try first|exact ⟨rfl,_,World.drewN_drewN _ _ _⟩|exact ⟨rfl,_,Eq.trans (World.drewN_drewN _ _ _) (congrArg (World.drewN _) (Nat.add_assoc _ _ _))⟩)));try go_wp2_with (first|((with_reducible refine gate_dst (N:=2) rfl ?_);(try (refine gate_guard (by rfl) ?_;dsimp only));refine box_event (by rfl) (N:=2) (by rfl) (cs:=#[.int .i64 a0_0, .int .i64 a0_1, .int .i64 a0_2, .string a0_3]) (t:=28) W3 ?_;intro gb101 hg w22 hbox hb;have BK101:=z_ (hbox);have GW101:=z_ ((W0:w.heap.size ≤ gb101));have GE101:=z_ ((W0:w.heap.size ≤ gb101));replace HB:=z_ (below_step W5 hb);clear hb hbox hg)|((with_reducible refine gate_dst (N:=3) rfl ?_);(try (refine gate_guard (by rfl) ?_;dsimp only));refine box_event (by rfl) (N:=3) (by rfl) (cs:=#[.int .i64 a1_0, .int .i64 a1_1, .int .i64 a1_2, .string a1_3]) (t:=28) W3 ?_;intro gb102 hg w23 hbox hb;have BK102:=z_ (hbox);have GW102:=z_ ((W6:w.heap.size ≤ gb102));have GE102:=z_ ((W6:w.heap.size ≤ gb102));replace HB:=z_ (below_step zp1 hb);have NB101_102:=z_ ((Amm:gb101 ≠ gb102));have NB102_101:=z_ ((Aml:gb102 ≠ gb101));replace BK101:=z_ (zk BK101.out hb);clear hb hbox hg;have hnb24:=NB101_102.out;have hnc24:=NB102_101.out;obtain ⟨_,_,_,_,_,_,_,_⟩:=Rr BK101.out;obtain ⟨_,_,_,_,_,_,_,_⟩:=Rr BK102.out)|(go_at_call 97;(with_reducible refine (Ad2.calls k (wrap64 ((ji3) - a0_2)) t103 _ A4.out).mono ?_);rintro e w' ⟨rfl,⟨nd,rfl⟩⟩;(try first|exact ⟨rfl,_,World.drewN_drewN _ _ _⟩|exact ⟨rfl,_,Eq.trans (World.drewN_drewN _ _ _) (congrArg (World.drewN _) (Nat.add_assoc _ _ _))⟩))|(go_at_call 97;(with_reducible refine (Ad2.calls k (wrap64 ((ji3) - a1_2)) t104 _ A5.out).mono ?_);rintro e w' ⟨rfl,⟨nd,rfl⟩⟩;(try first|exact ⟨rfl,_,World.drewN_drewN _ _ _⟩|exact ⟨rfl,_,Eq.trans (World.drewN_drewN _ _ _) (congrArg (World.drewN _) (Nat.add_assoc _ _ _))⟩))))
     refine bodyPost_ret (results_list (rs:=[.tmp 4, .tmp 5, .tmp 6, .tmp 7]) rfl (by simp) (.tmp (.tmp (.tmp (.tmp .nil))))) rfl ?_
     exact ⟨by first|rfl|(simp [errW_none,errW_some] <;> rfl)|(simp only [← hji3,← hji6,← hji14];first|rfl|(simp [errW_none,errW_some] <;> rfl))|(simp [*,errW_none,errW_some] <;> rfl),by repeat first|(with_reducible first|exact HB.out|apply zA|apply zN|apply z1|refine zS ?_ GE101.out|refine zS ?_ GE102.out)|exact HB.out⟩
end Go.Proofs.Ytglffgneikoeaaa.M
namespace Go.Proofs.Ytglffgneikoeaaa.M
open Go.RowKit Go.Proofs.YtglffgneikoeaaaW.PrintWords Go.Proofs.YtglffgneikoeaaaW.PrintLast Go.Proofs.YtglffgneikoeaaaW.PrintMore
attribute [local go_sem] max2_int min2_int max_two min_two max_three min_three max_four min_four
attribute [local go_sem high] own_gtr own_leq own_geq own_cell_set Option.map_some
set_option linter.unusedVariables false
set_option linter.unusedSimpArgs false
def Aec.f (k:Nat) (a0:Int) (a1_0:Int) (a1_1:Int) (a1_2:Int) (a1_3:ByteArray) (a2_0:Int) (a2_1:Int) (a2_2:Int) (a2_3:ByteArray):Option (Int × Int × Int × ByteArray × Bool):=if a0 = 6 then ((Amp.f a0 a1_1 a2_1).bind fun bt104=>((Ad9.f k 3 bt104.1 (wrap64 (a1_2 + a2_2)) (⟨#[]⟩:ByteArray)).bind fun bt106=>(if bt104.2 = true then ((val_Right.f k bt106.1 bt106.2.1 bt106.2.2.1 bt106.2.2.2).bind fun t111=>(some (bt106.1,bt106.2.1,bt106.2.2.1,bt106.2.2.2,t111))) else (some (bt106.1,bt106.2.1,bt106.2.2.1,bt106.2.2.2,false))))) else ((A1e.f k a1_0 a1_1 a1_2 a1_3 a2_0 a2_1 a2_2 a2_3).bind fun bt112=>(if bt112.2.2.2 = true then ((Amp.f a0 bt112.1 bt112.2.1).bind fun bt116=>((Ad9.f k 3 bt116.1 bt112.2.2.1 (⟨#[]⟩:ByteArray)).bind fun bt118=>(if bt116.2 = true then ((val_Right.f k bt118.1 bt118.2.1 bt118.2.2.1 bt118.2.2.2).bind fun t123=>(some (bt118.1,bt118.2.1,bt118.2.2.1,bt118.2.2.2,t123))) else (some (bt118.1,bt118.2.1,bt118.2.2.1,bt118.2.2.2,false))))) else (some (0,0,0,(⟨#[]⟩:ByteArray),false))))
def Aec.T1:Bool × List (List Nat × List Nat):=(true,[([],[]),([0],[0]),([],[]),([2],[2]),([],[]),([4],[4]),([],[]),([6],[6]),([5,7],[5,7]),([1,0,1],[1]),([3,9,0,1,2,3,9],[3]),([8,10,0,1,2,3,4,5,6,7,8,9,10],[8])])
def Aec.B1:List Nat:=[0,1,0,4,0,16,0,64,240,3,527,2047]
theorem Aec.tab1:rtab .any (opsOf Try.f81 1) = Aec.T1:=by kernel_rfl
theorem Aec.bits1:waitsOk Aec.T1.2 Aec.B1 = true:=by kernel_rfl
def Aec.T9:Bool × List (List Nat × List Nat):=(true,[([],[]),([],[]),([1],[1]),([2],[2]),([3,2,2],[2,3]),([2,4],[2,4]),([0,4,0],[0]),([5,6,0,1,2,3,4,5,6],[5])])
def Aec.B9:List Nat:=[0,0,2,6,14,30,31,127]
theorem Aec.tab9:rtab .any (opsOf Try.f81 9) = Aec.T9:=by kernel_rfl
theorem Aec.bits9:waitsOk Aec.T9.2 Aec.B9 = true:=by kernel_rfl
set_option maxHeartbeats 8000000 in
set_option maxRecDepth 100000 in
theorem Aec.calls (k:Nat) (a0:Int) (a1_0:Int) (a1_1:Int) (a1_2:Int) (a1_3:ByteArray) (a2_0:Int) (a2_1:Int) (a2_2:Int) (a2_3:ByteArray) (r1:Int) (r2:Int) (r3:Int) (r4:ByteArray) (r5:Bool) (w:World) (h:Aec.f k a0 a1_0 a1_1 a1_2 a1_3 a2_0 a2_1 a2_2 a2_3 = some (r1,r2,r3,r4,r5)) :
  Calls Try.prog 81 #[.int .i64 a0, .agg #[.int .i64 a1_0, .int .i64 a1_1, .int .i64 a1_2, .string a1_3], .agg #[.int .i64 a2_0, .int .i64 a2_1, .int .i64 a2_2, .string a2_3]] w fun e w'=>e = .returned (.tuple #[.agg #[.int .i64 r1, .int .i64 r2, .int .i64 r3, .string r4], .bool r5]) ∧ Below w.heap.size w w':=by
 have hu28:=Try.underlying28
 have HB:=z_ (Below.refl w.heap.size w)
 have H:(if a0 = 6 then ((Amp.f a0 a1_1 a2_1).bind fun bt104=>((Ad9.f k 3 bt104.1 (wrap64 (a1_2 + a2_2)) (⟨#[]⟩:ByteArray)).bind fun bt106=>(if bt104.2 = true then ((val_Right.f k bt106.1 bt106.2.1 bt106.2.2.1 bt106.2.2.2).bind fun t111=>(some (bt106.1,bt106.2.1,bt106.2.2.1,bt106.2.2.2,t111))) else (some (bt106.1,bt106.2.1,bt106.2.2.1,bt106.2.2.2,false))))) else ((A1e.f k a1_0 a1_1 a1_2 a1_3 a2_0 a2_1 a2_2 a2_3).bind fun bt112=>(if bt112.2.2.2 = true then ((Amp.f a0 bt112.1 bt112.2.1).bind fun bt116=>((Ad9.f k 3 bt116.1 bt112.2.2.1 (⟨#[]⟩:ByteArray)).bind fun bt118=>(if bt116.2 = true then ((val_Right.f k bt118.1 bt118.2.1 bt118.2.2.1 bt118.2.2.2).bind fun t123=>(some (bt118.1,bt118.2.1,bt118.2.2.1,bt118.2.2.2,t123))) else (some (bt118.1,bt118.2.1,bt118.2.2.1,bt118.2.2.2,false))))) else (some (0,0,0,(⟨#[]⟩:ByteArray),false))))) = some (r1,r2,r3,r4,r5):=h
 clear h
 by_cases c4:a0 = 6
 ·rw [if_pos c4] at H
  have c4b0:(a0 == 6) = true:=beq_iff_eq.mpr c4
  have c4b1:(a0 != 6) = false:=bne_eq_false_iff_eq.mpr c4
  clear c4
  replace H:=Option.bind_eq_some_iff.mp H
  obtain ⟨⟨t104,t105⟩,A50,H⟩:=H
  replace H:((Ad9.f k 3 t104 (wrap64 (a1_2 + a2_2)) (⟨#[]⟩:ByteArray)).bind fun bt106=>(if t105 = true then ((val_Right.f k bt106.1 bt106.2.1 bt106.2.2.1 bt106.2.2.2).bind fun t111=>(some (bt106.1,bt106.2.1,bt106.2.2.1,bt106.2.2.2,t111))) else (some (bt106.1,bt106.2.1,bt106.2.2.1,bt106.2.2.2,false)))) = some (r1,r2,r3,r4,r5):=H
  have A5:=z_ A50
  clear A50
  replace H:=Option.bind_eq_some_iff.mp H
  obtain ⟨⟨t106,t107,t108,t109⟩,A60,H⟩:=H
  replace H:(if t105 = true then ((val_Right.f k t106 t107 t108 t109).bind fun t111=>(some (t106,t107,t108,t109,t111))) else (some (t106,t107,t108,t109,false))) = some (r1,r2,r3,r4,r5):=H
  have A6:=z_ A60
  clear A60
  by_cases c7:t105 = true
  focus
   subst c7
   have H1:((val_Right.f k t106 t107 t108 t109).bind fun t111=>(some (t106,t107,t108,t109,t111))) = some (r1,r2,r3,r4,r5):=by rw [if_pos rfl] at H;exact H
   clear H
   have H:=H1
   clear H1
   replace H:=Option.bind_eq_some_iff.mp H
   obtain ⟨t111,A80,H⟩:=H
   replace H:(some (t106,t107,t108,t109,t111)) = some (r1,r2,r3,r4,r5):=H
   have A8:=z_ A80
   clear A80
   simp only [Option.some.injEq,Prod.mk.injEq] at H
   obtain ⟨rfl,rfl,rfl,rfl,rfl⟩:=H
  rotate_left
  focus
   replace c7:=Bool.eq_false_iff.mpr c7
   subst c7
   have H1:(some (t106,t107,t108,t109,false)) = some (r1,r2,r3,r4,r5):=by rw [if_neg (show ¬ (false = true) by decide)] at H;exact H
   clear H
   have H:=H1
   clear H1
   simp only [Option.some.injEq,Prod.mk.injEq] at H
   obtain ⟨rfl,rfl,rfl,rfl,rfl⟩:=H
  rotate_left
  all_goals
   go_enter Try.func81,Try.ntmps81
   try go_wp2_with (first|((with_reducible refine gate_dst (N:=4) rfl ?_);refine box_event (by rfl) (N:=4) (by rfl) (cs:=#[.int .i64 a1_0, .int .i64 a1_1, .int .i64 a1_2, .string a1_3]) (t:=28) W3 ?_;intro gb101 hg w9 hbox hb;have BK101:=z_ (hbox);have GW101:=z_ ((W0:w.heap.size ≤ gb101));have GE101:=z_ ((W0:w.heap.size ≤ gb101));replace HB:=z_ (below_step W5 hb);clear hb hbox hg)|((with_reducible refine gate_dst (N:=5) rfl ?_);refine box_event (by rfl) (N:=5) (by rfl) (cs:=#[.int .i64 a2_0, .int .i64 a2_1, .int .i64 a2_2, .string a2_3]) (t:=28) W3 ?_;intro gb102 hg w10 hbox hb;have BK102:=z_ (hbox);have GW102:=z_ ((W6:w.heap.size ≤ gb102));have GE102:=z_ ((W6:w.heap.size ≤ gb102));replace HB:=z_ (below_step zp1 hb);have NB101_102:=z_ ((Aeh:gb101 ≠ gb102));have NB102_101:=z_ ((Aei:gb102 ≠ gb101));replace BK101:=z_ (zk BK101.out hb);clear hb hbox hg)|((with_reducible refine gate_dst (N:=6) rfl ?_);refine box_event (by rfl) (N:=6) (by rfl) (cs:=#[.int .i64 0, .int .i64 0, .int .i64 0, .string (⟨#[]⟩:ByteArray)]) (t:=28) W3 ?_;intro gb103 hg w11 hbox hb;have BK103:=z_ (hbox);have GW103:=z_ ((Aen:w.heap.size ≤ gb103));have GE103:=z_ ((Aen:w.heap.size ≤ gb103));replace HB:=z_ (below_step zp5 hb);have NB101_103:=z_ ((Aeh:gb101 ≠ gb103));have NB103_101:=z_ ((Aei:gb103 ≠ gb101));replace BK101:=z_ (zk BK101.out hb);have NB102_103:=z_ ((Amd:gb102 ≠ gb103));have NB103_102:=z_ ((Aet:gb103 ≠ gb102));replace BK102:=z_ (zk BK102.out hb);clear hb hbox hg))
   have n0_:=z_ (A7 BK101.out)
   have n1_:=z_ (A7 BK102.out)
   have n2_:=z_ (A7 BK103.out)
   have n3_:=z_ (z1 HB.out)
   clear BK101
   clear BK102
   clear BK103
   clear HB
   have BK101:=n0_
   have BK102:=n1_
   have BK103:=n2_
   have HB:=n3_
  ·clear n0_ n1_ n2_ n3_
   refine start_ (n:=12) (S:=fun w'=>w'.cell? ⟨gb101,0,none⟩ = some (.int .i64 a1_0) ∧ w'.cell? ⟨gb101,1,none⟩ = some (.int .i64 a1_1) ∧ w'.cell? ⟨gb101,2,none⟩ = some (.int .i64 a1_2) ∧ w'.cell? ⟨gb101,3,none⟩ = some (.string a1_3) ∧ w'.cell? ⟨gb102,0,none⟩ = some (.int .i64 a2_0) ∧ w'.cell? ⟨gb102,1,none⟩ = some (.int .i64 a2_1) ∧ w'.cell? ⟨gb102,2,none⟩ = some (.int .i64 a2_2) ∧ w'.cell? ⟨gb102,3,none⟩ = some (.string a2_3)) (ds:=[]) #[false,false,false,false,false,false,false,false,false,false,false,false] (by kernel_rfl) rfl rfl ⟨(Oi BK101.out 0).trans rfl,(Oi BK101.out 1).trans rfl,(Oi BK101.out 2).trans rfl,(Oi BK101.out 3).trans rfl,(Oi BK102.out 0).trans rfl,(Oi BK102.out 1).trans rfl,(Oi BK102.out 2).trans rfl,(Oi BK102.out 3).trans rfl⟩ (fun hHeld=>?_);refine with_tabW Aec.tab1 Aec.bits1 (fun HT_ HW_=>?_)
   generalize w11.drew = w12 at BK101 BK102 BK103 HB hHeld ⊢
   refine pure_ (i:=0) (N:=some 15) (v:=?_) (a':=?_) #[true,false,false,false,false,false,false,false,false,false,false,false] rfl rfl (any_of HT_.out (by kernel_rfl)) (fun _ _ _ h=>h) (Or.inl ⟨by rfl,?_⟩) ?_ ?_
   rotate_left
   ·intro w'
    go_simp
    with_reducible rfl
   rotate_left
   ·simp only [Act.put,List.setIfInBounds_toArray,List.set_cons_zero,List.set_cons_succ,i64_w,i32_w]
    rfl
   refine pure_ (i:=2) (N:=some 17) (v:=?_) (a':=?_) #[true,false,true,false,false,false,false,false,false,false,false,false] rfl rfl (any_of HT_.out (by kernel_rfl)) (fun _ _ _ h=>h) (Or.inl ⟨by rfl,?_⟩) ?_ ?_
   rotate_left
   ·intro w'
    go_simp
    with_reducible rfl
   rotate_left
   ·simp only [Act.put,List.setIfInBounds_toArray,List.set_cons_zero,List.set_cons_succ,i64_w,i32_w]
    rfl
   refine pure_ (i:=4) (N:=some 19) (v:=?_) (a':=?_) #[true,false,true,false,true,false,false,false,false,false,false,false] rfl rfl (any_of HT_.out (by kernel_rfl)) (fun _ _ _ h=>h) (Or.inl ⟨by rfl,?_⟩) ?_ ?_
   rotate_left
   ·intro w'
    go_simp
    with_reducible rfl
   rotate_left
   ·simp only [Act.put,List.setIfInBounds_toArray,List.set_cons_zero,List.set_cons_succ,i64_w,i32_w]
    rfl
   refine pure_ (i:=6) (N:=some 21) (v:=?_) (a':=?_) #[true,false,true,false,true,false,true,false,false,false,false,false] rfl rfl (any_of HT_.out (by kernel_rfl)) (fun _ _ _ h=>h) (Or.inl ⟨by rfl,?_⟩) ?_ ?_
   rotate_left
   ·intro w'
    go_simp
    with_reducible rfl
   rotate_left
   ·simp only [Act.put,List.setIfInBounds_toArray,List.set_cons_zero,List.set_cons_succ,i64_w,i32_w]
    rfl
   refine take_ (i:=1) (N:=some 16) (v:=?_) (a':=?_) #[true,true,true,false,true,false,true,false,false,false,false,false] rfl rfl (take_ofW HT_.out HW_.out (by kernel_rfl)) (fun _ _ _ h=>h) (Or.inl ⟨by rfl,?_⟩) hHeld ?_ ?_
   rotate_left
   ·rintro w' ⟨s0,s1,s2,s3,s4,s5,s6,s7⟩
    go_simp
    with_reducible rfl
   rotate_left
   ·simp only [Act.put,List.setIfInBounds_toArray,List.set_cons_zero,List.set_cons_succ,i64_w,i32_w]
    rfl
   refine pure_ (i:=9) (N:=some 8) (v:=?_) (a':=?_) #[true,true,true,false,true,false,true,false,false,true,false,false] rfl rfl (any_of HT_.out (by kernel_rfl)) (fun _ _ _ h=>h) (Or.inl ⟨by rfl,?_⟩) ?_ ?_
   rotate_left
   ·intro w'
    go_simp
    with_reducible rfl
   rotate_left
   ·simp only [Act.put,List.setIfInBounds_toArray,List.set_cons_zero,List.set_cons_succ,i64_w,i32_w]
    rfl
   refine take_ (i:=3) (N:=some 18) (v:=?_) (a':=?_) #[true,true,true,true,true,false,true,false,false,true,false,false] rfl rfl (take_ofW HT_.out HW_.out (by kernel_rfl)) (fun _ _ _ h=>h) (Or.inl ⟨by rfl,?_⟩) hHeld ?_ ?_
   rotate_left
   ·rintro w' ⟨s0,s1,s2,s3,s4,s5,s6,s7⟩
    go_simp
    with_reducible rfl
   rotate_left
   ·simp only [Act.put,List.setIfInBounds_toArray,List.set_cons_zero,List.set_cons_succ,i64_w,i32_w]
    rfl
   refine pure_ (i:=10) (N:=some 9) (v:=?_) (a':=?_) #[true,true,true,true,true,false,true,false,false,true,true,false] rfl rfl (any_of HT_.out (by kernel_rfl)) (fun _ _ _ h=>h) (Or.inl ⟨by rfl,?_⟩) ?_ ?_
   rotate_left
   ·intro w'
    go_simp
    with_reducible rfl
   rotate_left
   ·simp only [Act.put,List.setIfInBounds_toArray,List.set_cons_zero,List.set_cons_succ,i64_w,i32_w]
    rfl
   refine take_ (i:=5) (N:=some 20) (v:=?_) (a':=?_) #[true,true,true,true,true,true,true,false,false,true,true,false] rfl rfl (take_ofW HT_.out HW_.out (by kernel_rfl)) (fun _ _ _ h=>h) (Or.inl ⟨by rfl,?_⟩) hHeld ?_ ?_
   rotate_left
   ·rintro w' ⟨s0,s1,s2,s3,s4,s5,s6,s7⟩
    go_simp
    with_reducible rfl
   rotate_left
   ·simp only [Act.put,List.setIfInBounds_toArray,List.set_cons_zero,List.set_cons_succ,i64_w,i32_w]
    rfl
   refine take_ (i:=7) (N:=some 22) (v:=?_) (a':=?_) #[true,true,true,true,true,true,true,true,false,true,true,false] rfl rfl (take_ofW HT_.out HW_.out (by kernel_rfl)) (fun _ _ _ h=>h) (Or.inl ⟨by rfl,?_⟩) hHeld ?_ ?_
   rotate_left
   ·rintro w' ⟨s0,s1,s2,s3,s4,s5,s6,s7⟩
    go_simp
    with_reducible rfl
   rotate_left
   ·simp only [Act.put,List.setIfInBounds_toArray,List.set_cons_zero,List.set_cons_succ,i64_w,i32_w]
    rfl
   refine pure_ (i:=8) (N:=some 23) (v:=?_) (a':=?_) #[true,true,true,true,true,true,true,true,true,true,true,false] rfl rfl (any_of HT_.out (by kernel_rfl)) (fun _ _ _ h=>h) (Or.inl ⟨by rfl,?_⟩) ?_ ?_
   rotate_left
   ·intro w'
    go_simp
    with_reducible rfl
   rotate_left
   ·simp only [Act.put,List.setIfInBounds_toArray,List.set_cons_zero,List.set_cons_succ,i64_w,i32_w]
    rfl
   refine pure_ (i:=11) (N:=some 10) (v:=?_) (a':=?_) #[true,true,true,true,true,true,true,true,true,true,true,true] rfl rfl (any_of HT_.out (by kernel_rfl)) (fun _ _ _ h=>h) (Or.inl ⟨by rfl,?_⟩) ?_ ?_
   rotate_left
   ·intro w'
    go_simp
    with_reducible rfl
   rotate_left
   ·simp only [Act.put,List.setIfInBounds_toArray,List.set_cons_zero,List.set_cons_succ,i64_w,i32_w]
    rfl
   refine done_ (done_of HT_.out (by kernel_rfl)) ?_
   try go_wp2_with (first|((with_reducible refine gate_callee (f:=92) rfl ?_);refine goesL_ (some 41) rfl rfl Try.func92 (by kernel_rfl) rfl #[.int .i64 a0, .int .i64 a1_1, .int .i64 a2_1] rfl W4 ?_;(with_reducible refine (Amp.calls a0 a1_1 a2_1 t104 true _ A5.out).mono ?_);rintro e w' ⟨rfl,⟨nd,rfl⟩⟩;refine ⟨_,rfl,?_⟩;(try (rw [drewN_self w12];generalize hq_:World.drewN w12 _ = w12;have n0_:Aside0 (w12.heap[gb101]? = some (.cells #[.int .i64 a1_0, .int .i64 a1_1, .int .i64 a1_2, .string a1_3] 28 (0,0))):=⟨by rw [← hq_];exact zp2⟩;have n1_:Aside0 (w12.heap[gb102]? = some (.cells #[.int .i64 a2_0, .int .i64 a2_1, .int .i64 a2_2, .string a2_3] 28 (0,0))):=⟨by rw [← hq_];exact zp7⟩;have n2_:Aside0 (w12.heap[gb103]? = some (.cells #[.int .i64 0, .int .i64 0, .int .i64 0, .string (⟨#[]⟩:ByteArray)] 28 (0,0))):=⟨by rw [← hq_];exact Aeq⟩;have n3_:Aside0 (Below w.heap.size w w12):=⟨by rw [← hq_];exact zp3⟩;clear BK101 BK102 BK103 HB hq_;have BK101:=n0_;have BK102:=n1_;have BK103:=n2_;have HB:=n3_;clear n0_ n1_ n2_ n3_));(try have hcu13_0:w12.cell? ⟨gb101,0,none⟩ = some (.int .i64 a1_0):=(Oi BK101.out 0).trans rfl);(try have hcu13_1:w12.cell? ⟨gb101,1,none⟩ = some (.int .i64 a1_1):=(Oi BK101.out 1).trans rfl);(try have hcu13_2:w12.cell? ⟨gb101,2,none⟩ = some (.int .i64 a1_2):=(Oi BK101.out 2).trans rfl);(try have hcu13_3:w12.cell? ⟨gb101,3,none⟩ = some (.string a1_3):=(Oi BK101.out 3).trans rfl);(try have hfu13_0:=S3 BK101.out 0);(try have hfu13_1:=S3 BK101.out 1);(try have hfu13_2:=S3 BK101.out 2);(try have hfu13_3:=S3 BK101.out 3);(try have hcu14_0:w12.cell? ⟨gb102,0,none⟩ = some (.int .i64 a2_0):=(Oi BK102.out 0).trans rfl);(try have hcu14_1:w12.cell? ⟨gb102,1,none⟩ = some (.int .i64 a2_1):=(Oi BK102.out 1).trans rfl);(try have hcu14_2:w12.cell? ⟨gb102,2,none⟩ = some (.int .i64 a2_2):=(Oi BK102.out 2).trans rfl);(try have hcu14_3:w12.cell? ⟨gb102,3,none⟩ = some (.string a2_3):=(Oi BK102.out 3).trans rfl);(try have hfu14_0:=S3 BK102.out 0);(try have hfu14_1:=S3 BK102.out 1);(try have hfu14_2:=S3 BK102.out 2);(try have hfu14_3:=S3 BK102.out 3);(try have hcu15_0:w12.cell? ⟨gb103,0,none⟩ = some (.int .i64 0):=(Oi BK103.out 0).trans rfl);(try have hcu15_1:w12.cell? ⟨gb103,1,none⟩ = some (.int .i64 0):=(Oi BK103.out 1).trans rfl);(try have hcu15_2:w12.cell? ⟨gb103,2,none⟩ = some (.int .i64 0):=(Oi BK103.out 2).trans rfl);(try have hcu15_3:w12.cell? ⟨gb103,3,none⟩ = some (.string (⟨#[]⟩:ByteArray)):=(Oi BK103.out 3).trans rfl);(try have hfu15_0:=S3 BK103.out 0);(try have hfu15_1:=S3 BK103.out 1);(try have hfu15_2:=S3 BK103.out 2);(try have hfu15_3:=S3 BK103.out 3))|((with_reducible refine gate_callee (f:=94) rfl ?_);refine goesL_ (some 47) rfl rfl Try.func94 (by kernel_rfl) rfl #[.agg #[.int .i64 3, .int .i64 t104, .int .i64 (wrap64 (a1_2 + a2_2)), .string (⟨#[]⟩:ByteArray)]] rfl W4 ?_;(with_reducible refine (Ad9.calls k 3 t104 (wrap64 (a1_2 + a2_2)) (⟨#[]⟩:ByteArray) t106 t107 t108 t109 _ A6.out).mono ?_);rintro e w16 ⟨rfl,hb⟩;refine ⟨_,rfl,?_⟩;replace BK101:=z_ (zk BK101.out hb);replace BK102:=z_ (zk BK102.out hb);replace BK103:=z_ (zk BK103.out hb);replace HB:=z_ (below_step zp3 hb);(try clear hb);(try clear hb2);(try clear hk);(try clear hi))|((with_reducible refine gate_dst (N:=14) rfl ?_);refine box_event (by rfl) (N:=14) (by rfl) (cs:=#[.int .i64 0, .int .i64 0, .int .i64 0, .string (⟨#[]⟩:ByteArray)]) (t:=28) W3 ?_;intro gb110 hg w17 hbox hb;have BK110:=z_ (hbox);have GW110:=z_ ((Aes:w.heap.size ≤ gb110));have GE110:=z_ ((Aes:w.heap.size ≤ gb110));replace HB:=z_ (below_step zp3 hb);have NB101_110:=z_ ((Aeh:gb101 ≠ gb110));have NB110_101:=z_ ((Aei:gb110 ≠ gb101));replace BK101:=z_ (zk BK101.out hb);have NB102_110:=z_ ((Amd:gb102 ≠ gb110));have NB110_102:=z_ ((Aet:gb110 ≠ gb102));replace BK102:=z_ (zk BK102.out hb);have NB103_110:=z_ ((A07:gb103 ≠ gb110));have NB110_103:=z_ ((A08:gb110 ≠ gb103));replace BK103:=z_ (zk BK103.out hb);clear hb hbox hg;have hnb18:=NB110_101.out;have hnc18:=NB101_110.out;have hnb19:=NB110_102.out;have hnc19:=NB102_110.out;have hnb20:=NB110_103.out;have hnc20:=NB103_110.out;obtain ⟨_,_,_,_,_,_,_,_⟩:=Rr BK110.out))
   have n0_:Aside0 (((((w17.setCell ⟨gb110,0,none⟩ (.int .i64 t106)).setCell ⟨gb110,1,none⟩ (.int .i64 t107)).setCell ⟨gb110,2,none⟩ (.int .i64 t108)).setCell ⟨gb110,3,none⟩ (.string t109)).heap[gb101]? = some (.cells #[.int .i64 a1_0, .int .i64 a1_1, .int .i64 a1_2, .string a1_3] 28 (0,0))):=⟨by (with_reducible repeat first|apply Jx|apply A7|apply K0);refine S0 ?_ NB101_110.out _;(with_reducible repeat first|apply Jx|apply A7|apply K0);refine S0 ?_ NB101_110.out _;(with_reducible repeat first|apply Jx|apply A7|apply K0);refine S0 ?_ NB101_110.out _;(with_reducible repeat first|apply Jx|apply A7|apply K0);refine S0 ?_ NB101_110.out _;(with_reducible repeat first|apply Jx|apply A7|apply K0);exact BK101.out⟩
   have n1_:Aside0 (((((w17.setCell ⟨gb110,0,none⟩ (.int .i64 t106)).setCell ⟨gb110,1,none⟩ (.int .i64 t107)).setCell ⟨gb110,2,none⟩ (.int .i64 t108)).setCell ⟨gb110,3,none⟩ (.string t109)).heap[gb102]? = some (.cells #[.int .i64 a2_0, .int .i64 a2_1, .int .i64 a2_2, .string a2_3] 28 (0,0))):=⟨by (with_reducible repeat first|apply Jx|apply A7|apply K0);refine S0 ?_ NB102_110.out _;(with_reducible repeat first|apply Jx|apply A7|apply K0);refine S0 ?_ NB102_110.out _;(with_reducible repeat first|apply Jx|apply A7|apply K0);refine S0 ?_ NB102_110.out _;(with_reducible repeat first|apply Jx|apply A7|apply K0);refine S0 ?_ NB102_110.out _;(with_reducible repeat first|apply Jx|apply A7|apply K0);exact BK102.out⟩
   have n2_:Aside0 (((((w17.setCell ⟨gb110,0,none⟩ (.int .i64 t106)).setCell ⟨gb110,1,none⟩ (.int .i64 t107)).setCell ⟨gb110,2,none⟩ (.int .i64 t108)).setCell ⟨gb110,3,none⟩ (.string t109)).heap[gb103]? = some (.cells #[.int .i64 0, .int .i64 0, .int .i64 0, .string (⟨#[]⟩:ByteArray)] 28 (0,0))):=⟨by (with_reducible repeat first|apply Jx|apply A7|apply K0);refine S0 ?_ NB103_110.out _;(with_reducible repeat first|apply Jx|apply A7|apply K0);refine S0 ?_ NB103_110.out _;(with_reducible repeat first|apply Jx|apply A7|apply K0);refine S0 ?_ NB103_110.out _;(with_reducible repeat first|apply Jx|apply A7|apply K0);refine S0 ?_ NB103_110.out _;(with_reducible repeat first|apply Jx|apply A7|apply K0);exact BK103.out⟩
   have n3_:Aside0 (((((w17.setCell ⟨gb110,0,none⟩ (.int .i64 t106)).setCell ⟨gb110,1,none⟩ (.int .i64 t107)).setCell ⟨gb110,2,none⟩ (.int .i64 t108)).setCell ⟨gb110,3,none⟩ (.string t109)).heap[gb110]? = some (.cells #[.int .i64 t106, .int .i64 t107, .int .i64 t108, .string t109] 28 (0,0))):=⟨by (with_reducible repeat first|apply Jx|apply A7|apply K0);refine Tt (cs:=#[.int .i64 t106, .int .i64 t107, .int .i64 t108, .string (⟨#[]⟩:ByteArray)]) ?_ 3 _ rfl;(with_reducible repeat first|apply Jx|apply A7|apply K0);refine Tt (cs:=#[.int .i64 t106, .int .i64 t107, .int .i64 0, .string (⟨#[]⟩:ByteArray)]) ?_ 2 _ rfl;(with_reducible repeat first|apply Jx|apply A7|apply K0);refine Tt (cs:=#[.int .i64 t106, .int .i64 0, .int .i64 0, .string (⟨#[]⟩:ByteArray)]) ?_ 1 _ rfl;(with_reducible repeat first|apply Jx|apply A7|apply K0);refine Tt (cs:=#[.int .i64 0, .int .i64 0, .int .i64 0, .string (⟨#[]⟩:ByteArray)]) ?_ 0 _ rfl;(with_reducible repeat first|apply Jx|apply A7|apply K0);exact BK110.out⟩
   have n4_:Aside0 (Below w.heap.size w ((((w17.setCell ⟨gb110,0,none⟩ (.int .i64 t106)).setCell ⟨gb110,1,none⟩ (.int .i64 t107)).setCell ⟨gb110,2,none⟩ (.int .i64 t108)).setCell ⟨gb110,3,none⟩ (.string t109))):=⟨by repeat first|(with_reducible first|exact HB.out|apply zA|apply zN|apply z1|refine zS ?_ GE101.out|refine zS ?_ GE102.out|refine zS ?_ GE103.out|refine zS ?_ GE110.out)|exact HB.out⟩
   (try clear BK101)
   (try clear BK102)
   (try clear BK103)
   (try clear BK110)
   (try clear HB)
   generalize ((((w17.setCell ⟨gb110,0,none⟩ (.int .i64 t106)).setCell ⟨gb110,1,none⟩ (.int .i64 t107)).setCell ⟨gb110,2,none⟩ (.int .i64 t108)).setCell ⟨gb110,3,none⟩ (.string t109)) = w22 at n0_ n1_ n2_ n3_ n4_ ⊢
   have BK101:=n0_
   have BK102:=n1_
   have BK103:=n2_
   have BK110:=n3_
   have HB:=n4_
   clear n0_ n1_ n2_ n3_ n4_
   have n0_:=z_ (A7 BK101.out)
   have n1_:=z_ (A7 BK102.out)
   have n2_:=z_ (A7 BK103.out)
   have n3_:=z_ (A7 BK110.out)
   have n4_:=z_ (z1 HB.out)
   clear BK101
   clear BK102
   clear BK103
   clear BK110
   clear HB
   have BK101:=n0_
   have BK102:=n1_
   have BK103:=n2_
   have BK110:=n3_
   have HB:=n4_
   clear n0_ n1_ n2_ n3_ n4_
   refine start_ (n:=8) (S:=fun w'=>w'.cell? ⟨gb110,0,none⟩ = some (.int .i64 t106) ∧ w'.cell? ⟨gb110,1,none⟩ = some (.int .i64 t107) ∧ w'.cell? ⟨gb110,2,none⟩ = some (.int .i64 t108) ∧ w'.cell? ⟨gb110,3,none⟩ = some (.string t109)) (ds:=[]) #[false,false,false,false,false,false,false,false] (by kernel_rfl) rfl rfl ⟨(Oi BK110.out 0).trans rfl,(Oi BK110.out 1).trans rfl,(Oi BK110.out 2).trans rfl,(Oi BK110.out 3).trans rfl⟩ (fun hHeld=>?_);refine with_tabW Aec.tab9 Aec.bits9 (fun HT_ HW_=>?_)
   generalize w22.drew = w23 at BK101 BK102 BK103 BK110 HB hHeld ⊢
   refine pure_ (i:=1) (N:=some 49) (v:=?_) (a':=?_) #[false,true,false,false,false,false,false,false] rfl rfl (any_of HT_.out (by kernel_rfl)) (fun _ _ _ h=>h) (Or.inl ⟨by rfl,?_⟩) ?_ ?_
   rotate_left
   ·intro w'
    go_simp
    with_reducible rfl
   rotate_left
   ·simp only [Act.put,List.setIfInBounds_toArray,List.set_cons_zero,List.set_cons_succ,i64_w,i32_w]
    rfl
   refine pure_ (i:=2) (N:=some 50) (v:=?_) (a':=?_) #[false,true,true,false,false,false,false,false] rfl rfl (any_of HT_.out (by kernel_rfl)) (fun _ _ _ h=>h) (Or.inl ⟨by rfl,?_⟩) ?_ ?_
   rotate_left
   ·intro w'
    go_simp
    with_reducible rfl
   rotate_left
   ·simp only [Act.put,List.setIfInBounds_toArray,List.set_cons_zero,List.set_cons_succ,i64_w,i32_w]
    rfl
   refine take_ (i:=0) (N:=some 48) (v:=?_) (a':=?_) #[true,true,true,false,false,false,false,false] rfl rfl (take_ofW HT_.out HW_.out (by kernel_rfl)) (fun _ _ _ h=>h) (Or.inl ⟨by rfl,?_⟩) hHeld ?_ ?_
   rotate_left
   ·rintro w' ⟨s0,s1,s2,s3⟩
    go_simp
    with_reducible rfl
   rotate_left
   ·simp only [Act.put,List.setIfInBounds_toArray,List.set_cons_zero,List.set_cons_succ,i64_w,i32_w]
    rfl
   refine take_ (i:=3) (N:=some 51) (v:=?_) (a':=?_) #[true,true,true,true,false,false,false,false] rfl rfl (take_ofW HT_.out HW_.out (by kernel_rfl)) (fun _ _ _ h=>h) (Or.inl ⟨by rfl,?_⟩) hHeld ?_ ?_
   rotate_left
   ·rintro w' ⟨s0,s1,s2,s3⟩
    go_simp
    with_reducible rfl
   rotate_left
   ·simp only [Act.put,List.setIfInBounds_toArray,List.set_cons_zero,List.set_cons_succ,i64_w,i32_w]
    rfl
   refine one_ (i:=4) (N:=some 52) #[true,true,true,true,true,false,false,false] rfl rfl (one_of HT_.out (by kernel_rfl)) (by decide) (fun K hK=>?_)
   refine goes_ Try.func95 (by kernel_rfl) rfl #[.agg #[.int .i64 t106, .int .i64 t107, .int .i64 t108, .string t109]] (by rfl) rfl rfl W4 ?_
   with_reducible refine (val_Right.calls k t106 t107 t108 t109 t111 _ A8.out).mono ?_
   rintro e w24 ⟨rfl,hb⟩
   refine ⟨_,rfl,?_⟩
   have n0_:=z_ (zk BK101.out hb)
   have n1_:=z_ (zk BK102.out hb)
   have n2_:=z_ (zk BK103.out hb)
   have n3_:=z_ (zk BK110.out hb)
   have n4_:=z_ (below_step A4s hb)
   clear BK101
   clear BK102
   clear BK103
   clear BK110
   clear HB
   have BK101:=n0_
   have BK102:=n1_
   have BK103:=n2_
   have BK110:=n3_
   have HB:=n4_
   clear n0_ n1_ n2_ n3_ n4_
   (try clear hb)
   (try clear hb2)
   (try clear hk)
   (try clear hi)
   refine hK.out _ _ ⟨(Oi BK110.out 0).trans rfl,(Oi BK110.out 1).trans rfl,(Oi BK110.out 2).trans rfl,(Oi BK110.out 3).trans rfl⟩ (fun hHeld=>?_)
   clear hK K
   refine norm_ (a':=?_) ?_ ?_
   rotate_left
   ·show Act.put _ (some 52) _ = _
    simp only [Act.put,List.setIfInBounds_toArray,List.set_cons_zero,List.set_cons_succ,i64_w,i32_w]
    rfl
   refine pure_ (i:=5) (N:=some 53) (v:=?_) (a':=?_) #[true,true,true,true,true,true,false,false] rfl rfl (any_of HT_.out (by kernel_rfl)) (fun _ _ _ h=>h) (Or.inl ⟨by rfl,?_⟩) ?_ ?_
   rotate_left
   ·intro w'
    go_simp
    with_reducible rfl
   rotate_left
   ·simp only [Act.put,List.setIfInBounds_toArray,List.set_cons_zero,List.set_cons_succ,i64_w,i32_w]
    rfl
   refine one_ (i:=6) (N:=none) #[true,true,true,true,true,true,true,false] rfl rfl (one_of HT_.out (by kernel_rfl)) (by decide) (fun K hK=>?_)
   have hs25:w24.cell? ⟨gb103,0,none⟩ = some (.int .i64 0):=(Oi BK103.out 0).trans rfl
   have hfs25:=S3 BK103.out 0
   have hns25_0:=NB101_103.out
   have hns25_1:=NB102_103.out
   have hns25_3:=NB110_103.out
   have hms25_0:=NB103_101.out
   have hms25_1:=NB103_102.out
   have hms25_3:=NB103_110.out
   have hs26:w24.cell? ⟨gb103,1,none⟩ = some (.int .i64 0):=(Oi BK103.out 1).trans rfl
   have hfs26:=S3 BK103.out 1
   have hns26_0:=NB101_103.out
   have hns26_1:=NB102_103.out
   have hns26_3:=NB110_103.out
   have hms26_0:=NB103_101.out
   have hms26_1:=NB103_102.out
   have hms26_3:=NB103_110.out
   have hs27:w24.cell? ⟨gb103,2,none⟩ = some (.int .i64 0):=(Oi BK103.out 2).trans rfl
   have hfs27:=S3 BK103.out 2
   have hns27_0:=NB101_103.out
   have hns27_1:=NB102_103.out
   have hns27_3:=NB110_103.out
   have hms27_0:=NB103_101.out
   have hms27_1:=NB103_102.out
   have hms27_3:=NB103_110.out
   have hs28:w24.cell? ⟨gb103,3,none⟩ = some (.string (⟨#[]⟩:ByteArray)):=(Oi BK103.out 3).trans rfl
   have hfs28:=S3 BK103.out 3
   have hns28_0:=NB101_103.out
   have hns28_1:=NB102_103.out
   have hns28_3:=NB110_103.out
   have hms28_0:=NB103_101.out
   have hms28_1:=NB103_102.out
   have hms28_3:=NB103_110.out
   refine skip_ (w1:=?_) (by rfl) rfl ?_ ?_
   rotate_left
   ·go_simp
    rfl
   refine hK.out _ _ ⟨((cell_far (p:=⟨gb103,_,none⟩) NB110_103.out _).trans (((cell_far (p:=⟨gb103,_,none⟩) NB110_103.out _).trans (((cell_far (p:=⟨gb103,_,none⟩) NB110_103.out _).trans (((cell_far (p:=⟨gb103,_,none⟩) NB110_103.out _).trans (hHeld.1)))))))),((cell_far (p:=⟨gb103,_,none⟩) NB110_103.out _).trans (((cell_far (p:=⟨gb103,_,none⟩) NB110_103.out _).trans (((cell_far (p:=⟨gb103,_,none⟩) NB110_103.out _).trans (((cell_far (p:=⟨gb103,_,none⟩) NB110_103.out _).trans (hHeld.2.1)))))))),((cell_far (p:=⟨gb103,_,none⟩) NB110_103.out _).trans (((cell_far (p:=⟨gb103,_,none⟩) NB110_103.out _).trans (((cell_far (p:=⟨gb103,_,none⟩) NB110_103.out _).trans (((cell_far (p:=⟨gb103,_,none⟩) NB110_103.out _).trans (hHeld.2.2.1)))))))),((cell_far (p:=⟨gb103,_,none⟩) NB110_103.out _).trans (((cell_far (p:=⟨gb103,_,none⟩) NB110_103.out _).trans (((cell_far (p:=⟨gb103,_,none⟩) NB110_103.out _).trans (((cell_far (p:=⟨gb103,_,none⟩) NB110_103.out _).trans (hHeld.2.2.2))))))))⟩ (fun hHeld=>?_)
   clear hK K
   refine pure_ (i:=7) (N:=some 7) (v:=?_) (a':=?_) #[true,true,true,true,true,true,true,true] rfl rfl (any_of HT_.out (by kernel_rfl)) (fun _ _ _ h=>h) (Or.inl ⟨by rfl,?_⟩) ?_ ?_
   rotate_left
   ·intro w'
    go_simp
    with_reducible rfl
   rotate_left
   ·simp only [Act.put,List.setIfInBounds_toArray,List.set_cons_zero,List.set_cons_succ,i64_w,i32_w]
    rfl
   refine done_ (done_of HT_.out (by kernel_rfl)) ?_
   try go_wp2
   refine bodyPost_ret (results_ct rfl _ _ gb103 28 #[.int .i64 t106, .int .i64 t107, .int .i64 t108, .string t109] (0,0) _ rfl A4w Try.underlying28 rfl (by kernel_rfl)) rfl ?_
   exact ⟨by first|rfl|(simp [errW_none,errW_some] <;> rfl)|(simp [*,errW_none,errW_some] <;> rfl),by repeat first|(with_reducible first|exact HB.out|apply zA|apply zN|apply z1|refine zS ?_ GE101.out|refine zS ?_ GE102.out|refine zS ?_ GE103.out|refine zS ?_ GE110.out)|exact HB.out⟩
  ·clear n0_ n1_ n2_ n3_
   refine start_ (n:=12) (S:=fun w'=>w'.cell? ⟨gb101,0,none⟩ = some (.int .i64 a1_0) ∧ w'.cell? ⟨gb101,1,none⟩ = some (.int .i64 a1_1) ∧ w'.cell? ⟨gb101,2,none⟩ = some (.int .i64 a1_2) ∧ w'.cell? ⟨gb101,3,none⟩ = some (.string a1_3) ∧ w'.cell? ⟨gb102,0,none⟩ = some (.int .i64 a2_0) ∧ w'.cell? ⟨gb102,1,none⟩ = some (.int .i64 a2_1) ∧ w'.cell? ⟨gb102,2,none⟩ = some (.int .i64 a2_2) ∧ w'.cell? ⟨gb102,3,none⟩ = some (.string a2_3)) (ds:=[]) #[false,false,false,false,false,false,false,false,false,false,false,false] (by kernel_rfl) rfl rfl ⟨(Oi BK101.out 0).trans rfl,(Oi BK101.out 1).trans rfl,(Oi BK101.out 2).trans rfl,(Oi BK101.out 3).trans rfl,(Oi BK102.out 0).trans rfl,(Oi BK102.out 1).trans rfl,(Oi BK102.out 2).trans rfl,(Oi BK102.out 3).trans rfl⟩ (fun hHeld=>?_);refine with_tabW Aec.tab1 Aec.bits1 (fun HT_ HW_=>?_)
   generalize w11.drew = w12 at BK101 BK102 BK103 HB hHeld ⊢
   refine pure_ (i:=0) (N:=some 15) (v:=?_) (a':=?_) #[true,false,false,false,false,false,false,false,false,false,false,false] rfl rfl (any_of HT_.out (by kernel_rfl)) (fun _ _ _ h=>h) (Or.inl ⟨by rfl,?_⟩) ?_ ?_
   rotate_left
   ·intro w'
    go_simp
    with_reducible rfl
   rotate_left
   ·simp only [Act.put,List.setIfInBounds_toArray,List.set_cons_zero,List.set_cons_succ,i64_w,i32_w]
    rfl
   refine pure_ (i:=2) (N:=some 17) (v:=?_) (a':=?_) #[true,false,true,false,false,false,false,false,false,false,false,false] rfl rfl (any_of HT_.out (by kernel_rfl)) (fun _ _ _ h=>h) (Or.inl ⟨by rfl,?_⟩) ?_ ?_
   rotate_left
   ·intro w'
    go_simp
    with_reducible rfl
   rotate_left
   ·simp only [Act.put,List.setIfInBounds_toArray,List.set_cons_zero,List.set_cons_succ,i64_w,i32_w]
    rfl
   refine pure_ (i:=4) (N:=some 19) (v:=?_) (a':=?_) #[true,false,true,false,true,false,false,false,false,false,false,false] rfl rfl (any_of HT_.out (by kernel_rfl)) (fun _ _ _ h=>h) (Or.inl ⟨by rfl,?_⟩) ?_ ?_
   rotate_left
   ·intro w'
    go_simp
    with_reducible rfl
   rotate_left
   ·simp only [Act.put,List.setIfInBounds_toArray,List.set_cons_zero,List.set_cons_succ,i64_w,i32_w]
    rfl
   refine pure_ (i:=6) (N:=some 21) (v:=?_) (a':=?_) #[true,false,true,false,true,false,true,false,false,false,false,false] rfl rfl (any_of HT_.out (by kernel_rfl)) (fun _ _ _ h=>h) (Or.inl ⟨by rfl,?_⟩) ?_ ?_
   rotate_left
   ·intro w'
    go_simp
    with_reducible rfl
   rotate_left
   ·simp only [Act.put,List.setIfInBounds_toArray,List.set_cons_zero,List.set_cons_succ,i64_w,i32_w]
    rfl
   refine take_ (i:=1) (N:=some 16) (v:=?_) (a':=?_) #[true,true,true,false,true,false,true,false,false,false,false,false] rfl rfl (take_ofW HT_.out HW_.out (by kernel_rfl)) (fun _ _ _ h=>h) (Or.inl ⟨by rfl,?_⟩) hHeld ?_ ?_
   rotate_left
   ·rintro w' ⟨s0,s1,s2,s3,s4,s5,s6,s7⟩
    go_simp
    with_reducible rfl
   rotate_left
   ·simp only [Act.put,List.setIfInBounds_toArray,List.set_cons_zero,List.set_cons_succ,i64_w,i32_w]
    rfl
   refine pure_ (i:=9) (N:=some 8) (v:=?_) (a':=?_) #[true,true,true,false,true,false,true,false,false,true,false,false] rfl rfl (any_of HT_.out (by kernel_rfl)) (fun _ _ _ h=>h) (Or.inl ⟨by rfl,?_⟩) ?_ ?_
   rotate_left
   ·intro w'
    go_simp
    with_reducible rfl
   rotate_left
   ·simp only [Act.put,List.setIfInBounds_toArray,List.set_cons_zero,List.set_cons_succ,i64_w,i32_w]
    rfl
   refine take_ (i:=3) (N:=some 18) (v:=?_) (a':=?_) #[true,true,true,true,true,false,true,false,false,true,false,false] rfl rfl (take_ofW HT_.out HW_.out (by kernel_rfl)) (fun _ _ _ h=>h) (Or.inl ⟨by rfl,?_⟩) hHeld ?_ ?_
   rotate_left
   ·rintro w' ⟨s0,s1,s2,s3,s4,s5,s6,s7⟩
    go_simp
    with_reducible rfl
   rotate_left
   ·simp only [Act.put,List.setIfInBounds_toArray,List.set_cons_zero,List.set_cons_succ,i64_w,i32_w]
    rfl
   refine pure_ (i:=10) (N:=some 9) (v:=?_) (a':=?_) #[true,true,true,true,true,false,true,false,false,true,true,false] rfl rfl (any_of HT_.out (by kernel_rfl)) (fun _ _ _ h=>h) (Or.inl ⟨by rfl,?_⟩) ?_ ?_
   rotate_left
   ·intro w'
    go_simp
    with_reducible rfl
   rotate_left
   ·simp only [Act.put,List.setIfInBounds_toArray,List.set_cons_zero,List.set_cons_succ,i64_w,i32_w]
    rfl
   refine take_ (i:=5) (N:=some 20) (v:=?_) (a':=?_) #[true,true,true,true,true,true,true,false,false,true,true,false] rfl rfl (take_ofW HT_.out HW_.out (by kernel_rfl)) (fun _ _ _ h=>h) (Or.inl ⟨by rfl,?_⟩) hHeld ?_ ?_
   rotate_left
   ·rintro w' ⟨s0,s1,s2,s3,s4,s5,s6,s7⟩
    go_simp
    with_reducible rfl
   rotate_left
   ·simp only [Act.put,List.setIfInBounds_toArray,List.set_cons_zero,List.set_cons_succ,i64_w,i32_w]
    rfl
   refine take_ (i:=7) (N:=some 22) (v:=?_) (a':=?_) #[true,true,true,true,true,true,true,true,false,true,true,false] rfl rfl (take_ofW HT_.out HW_.out (by kernel_rfl)) (fun _ _ _ h=>h) (Or.inl ⟨by rfl,?_⟩) hHeld ?_ ?_
   rotate_left
   ·rintro w' ⟨s0,s1,s2,s3,s4,s5,s6,s7⟩
    go_simp
    with_reducible rfl
   rotate_left
   ·simp only [Act.put,List.setIfInBounds_toArray,List.set_cons_zero,List.set_cons_succ,i64_w,i32_w]
    rfl
   refine pure_ (i:=8) (N:=some 23) (v:=?_) (a':=?_) #[true,true,true,true,true,true,true,true,true,true,true,false] rfl rfl (any_of HT_.out (by kernel_rfl)) (fun _ _ _ h=>h) (Or.inl ⟨by rfl,?_⟩) ?_ ?_
   rotate_left
   ·intro w'
    go_simp
    with_reducible rfl
   rotate_left
   ·simp only [Act.put,List.setIfInBounds_toArray,List.set_cons_zero,List.set_cons_succ,i64_w,i32_w]
    rfl
   refine pure_ (i:=11) (N:=some 10) (v:=?_) (a':=?_) #[true,true,true,true,true,true,true,true,true,true,true,true] rfl rfl (any_of HT_.out (by kernel_rfl)) (fun _ _ _ h=>h) (Or.inl ⟨by rfl,?_⟩) ?_ ?_
   rotate_left
   ·intro w'
    go_simp
    with_reducible rfl
   rotate_left
   ·simp only [Act.put,List.setIfInBounds_toArray,List.set_cons_zero,List.set_cons_succ,i64_w,i32_w]
    rfl
   refine done_ (done_of HT_.out (by kernel_rfl)) ?_
   try go_wp2_with (first|((with_reducible refine gate_callee (f:=92) rfl ?_);refine goesL_ (some 41) rfl rfl Try.func92 (by kernel_rfl) rfl #[.int .i64 a0, .int .i64 a1_1, .int .i64 a2_1] rfl W4 ?_;(with_reducible refine (Amp.calls a0 a1_1 a2_1 t104 false _ A5.out).mono ?_);rintro e w' ⟨rfl,⟨nd,rfl⟩⟩;refine ⟨_,rfl,?_⟩;(try (rw [drewN_self w12];generalize hq_:World.drewN w12 _ = w12;have n0_:Aside0 (w12.heap[gb101]? = some (.cells #[.int .i64 a1_0, .int .i64 a1_1, .int .i64 a1_2, .string a1_3] 28 (0,0))):=⟨by rw [← hq_];exact zp2⟩;have n1_:Aside0 (w12.heap[gb102]? = some (.cells #[.int .i64 a2_0, .int .i64 a2_1, .int .i64 a2_2, .string a2_3] 28 (0,0))):=⟨by rw [← hq_];exact zp7⟩;have n2_:Aside0 (w12.heap[gb103]? = some (.cells #[.int .i64 0, .int .i64 0, .int .i64 0, .string (⟨#[]⟩:ByteArray)] 28 (0,0))):=⟨by rw [← hq_];exact Aeq⟩;have n3_:Aside0 (Below w.heap.size w w12):=⟨by rw [← hq_];exact zp3⟩;clear BK101 BK102 BK103 HB hq_;have BK101:=n0_;have BK102:=n1_;have BK103:=n2_;have HB:=n3_;clear n0_ n1_ n2_ n3_));(try have hcu33_0:w12.cell? ⟨gb101,0,none⟩ = some (.int .i64 a1_0):=(Oi BK101.out 0).trans rfl);(try have hcu33_1:w12.cell? ⟨gb101,1,none⟩ = some (.int .i64 a1_1):=(Oi BK101.out 1).trans rfl);(try have hcu33_2:w12.cell? ⟨gb101,2,none⟩ = some (.int .i64 a1_2):=(Oi BK101.out 2).trans rfl);(try have hcu33_3:w12.cell? ⟨gb101,3,none⟩ = some (.string a1_3):=(Oi BK101.out 3).trans rfl);(try have hfu33_0:=S3 BK101.out 0);(try have hfu33_1:=S3 BK101.out 1);(try have hfu33_2:=S3 BK101.out 2);(try have hfu33_3:=S3 BK101.out 3);(try have hcu34_0:w12.cell? ⟨gb102,0,none⟩ = some (.int .i64 a2_0):=(Oi BK102.out 0).trans rfl);(try have hcu34_1:w12.cell? ⟨gb102,1,none⟩ = some (.int .i64 a2_1):=(Oi BK102.out 1).trans rfl);(try have hcu34_2:w12.cell? ⟨gb102,2,none⟩ = some (.int .i64 a2_2):=(Oi BK102.out 2).trans rfl);(try have hcu34_3:w12.cell? ⟨gb102,3,none⟩ = some (.string a2_3):=(Oi BK102.out 3).trans rfl);(try have hfu34_0:=S3 BK102.out 0);(try have hfu34_1:=S3 BK102.out 1);(try have hfu34_2:=S3 BK102.out 2);(try have hfu34_3:=S3 BK102.out 3);(try have hcu35_0:w12.cell? ⟨gb103,0,none⟩ = some (.int .i64 0):=(Oi BK103.out 0).trans rfl);(try have hcu35_1:w12.cell? ⟨gb103,1,none⟩ = some (.int .i64 0):=(Oi BK103.out 1).trans rfl);(try have hcu35_2:w12.cell? ⟨gb103,2,none⟩ = some (.int .i64 0):=(Oi BK103.out 2).trans rfl);(try have hcu35_3:w12.cell? ⟨gb103,3,none⟩ = some (.string (⟨#[]⟩:ByteArray)):=(Oi BK103.out 3).trans rfl);(try have hfu35_0:=S3 BK103.out 0);(try have hfu35_1:=S3 BK103.out 1);(try have hfu35_2:=S3 BK103.out 2);(try have hfu35_3:=S3 BK103.out 3))|((with_reducible refine gate_callee (f:=94) rfl ?_);refine goesL_ (some 47) rfl rfl Try.func94 (by kernel_rfl) rfl #[.agg #[.int .i64 3, .int .i64 t104, .int .i64 (wrap64 (a1_2 + a2_2)), .string (⟨#[]⟩:ByteArray)]] rfl W4 ?_;(with_reducible refine (Ad9.calls k 3 t104 (wrap64 (a1_2 + a2_2)) (⟨#[]⟩:ByteArray) t106 t107 t108 t109 _ A6.out).mono ?_);rintro e w36 ⟨rfl,hb⟩;refine ⟨_,rfl,?_⟩;replace BK101:=z_ (zk BK101.out hb);replace BK102:=z_ (zk BK102.out hb);replace BK103:=z_ (zk BK103.out hb);replace HB:=z_ (below_step zp3 hb);(try clear hb);(try clear hb2);(try clear hk);(try clear hi))|((with_reducible refine gate_dst (N:=14) rfl ?_);refine box_event (by rfl) (N:=14) (by rfl) (cs:=#[.int .i64 0, .int .i64 0, .int .i64 0, .string (⟨#[]⟩:ByteArray)]) (t:=28) W3 ?_;intro gb110 hg w37 hbox hb;have BK110:=z_ (hbox);have GW110:=z_ ((Aes:w.heap.size ≤ gb110));have GE110:=z_ ((Aes:w.heap.size ≤ gb110));replace HB:=z_ (below_step zp3 hb);have NB101_110:=z_ ((Aeh:gb101 ≠ gb110));have NB110_101:=z_ ((Aei:gb110 ≠ gb101));replace BK101:=z_ (zk BK101.out hb);have NB102_110:=z_ ((Amd:gb102 ≠ gb110));have NB110_102:=z_ ((Aet:gb110 ≠ gb102));replace BK102:=z_ (zk BK102.out hb);have NB103_110:=z_ ((A07:gb103 ≠ gb110));have NB110_103:=z_ ((A08:gb110 ≠ gb103));replace BK103:=z_ (zk BK103.out hb);clear hb hbox hg;have hnb38:=NB110_101.out;have hnc38:=NB101_110.out;have hnb39:=NB110_102.out;have hnc39:=NB102_110.out;have hnb40:=NB110_103.out;have hnc40:=NB103_110.out;obtain ⟨_,_,_,_,_,_,_,_⟩:=Rr BK110.out))
   have n0_:Aside0 (((((w37.setCell ⟨gb110,0,none⟩ (.int .i64 t106)).setCell ⟨gb110,1,none⟩ (.int .i64 t107)).setCell ⟨gb110,2,none⟩ (.int .i64 t108)).setCell ⟨gb110,3,none⟩ (.string t109)).heap[gb101]? = some (.cells #[.int .i64 a1_0, .int .i64 a1_1, .int .i64 a1_2, .string a1_3] 28 (0,0))):=⟨by (with_reducible repeat first|apply Jx|apply A7|apply K0);refine S0 ?_ NB101_110.out _;(with_reducible repeat first|apply Jx|apply A7|apply K0);refine S0 ?_ NB101_110.out _;(with_reducible repeat first|apply Jx|apply A7|apply K0);refine S0 ?_ NB101_110.out _;(with_reducible repeat first|apply Jx|apply A7|apply K0);refine S0 ?_ NB101_110.out _;(with_reducible repeat first|apply Jx|apply A7|apply K0);exact BK101.out⟩
   have n1_:Aside0 (((((w37.setCell ⟨gb110,0,none⟩ (.int .i64 t106)).setCell ⟨gb110,1,none⟩ (.int .i64 t107)).setCell ⟨gb110,2,none⟩ (.int .i64 t108)).setCell ⟨gb110,3,none⟩ (.string t109)).heap[gb102]? = some (.cells #[.int .i64 a2_0, .int .i64 a2_1, .int .i64 a2_2, .string a2_3] 28 (0,0))):=⟨by (with_reducible repeat first|apply Jx|apply A7|apply K0);refine S0 ?_ NB102_110.out _;(with_reducible repeat first|apply Jx|apply A7|apply K0);refine S0 ?_ NB102_110.out _;(with_reducible repeat first|apply Jx|apply A7|apply K0);refine S0 ?_ NB102_110.out _;(with_reducible repeat first|apply Jx|apply A7|apply K0);refine S0 ?_ NB102_110.out _;(with_reducible repeat first|apply Jx|apply A7|apply K0);exact BK102.out⟩
   have n2_:Aside0 (((((w37.setCell ⟨gb110,0,none⟩ (.int .i64 t106)).setCell ⟨gb110,1,none⟩ (.int .i64 t107)).setCell ⟨gb110,2,none⟩ (.int .i64 t108)).setCell ⟨gb110,3,none⟩ (.string t109)).heap[gb103]? = some (.cells #[.int .i64 0, .int .i64 0, .int .i64 0, .string (⟨#[]⟩:ByteArray)] 28 (0,0))):=⟨by (with_reducible repeat first|apply Jx|apply A7|apply K0);refine S0 ?_ NB103_110.out _;(with_reducible repeat first|apply Jx|apply A7|apply K0);refine S0 ?_ NB103_110.out _;(with_reducible repeat first|apply Jx|apply A7|apply K0);refine S0 ?_ NB103_110.out _;(with_reducible repeat first|apply Jx|apply A7|apply K0);refine S0 ?_ NB103_110.out _;(with_reducible repeat first|apply Jx|apply A7|apply K0);exact BK103.out⟩
   have n3_:Aside0 (((((w37.setCell ⟨gb110,0,none⟩ (.int .i64 t106)).setCell ⟨gb110,1,none⟩ (.int .i64 t107)).setCell ⟨gb110,2,none⟩ (.int .i64 t108)).setCell ⟨gb110,3,none⟩ (.string t109)).heap[gb110]? = some (.cells #[.int .i64 t106, .int .i64 t107, .int .i64 t108, .string t109] 28 (0,0))):=⟨by (with_reducible repeat first|apply Jx|apply A7|apply K0);refine Tt (cs:=#[.int .i64 t106, .int .i64 t107, .int .i64 t108, .string (⟨#[]⟩:ByteArray)]) ?_ 3 _ rfl;(with_reducible repeat first|apply Jx|apply A7|apply K0);refine Tt (cs:=#[.int .i64 t106, .int .i64 t107, .int .i64 0, .string (⟨#[]⟩:ByteArray)]) ?_ 2 _ rfl;(with_reducible repeat first|apply Jx|apply A7|apply K0);refine Tt (cs:=#[.int .i64 t106, .int .i64 0, .int .i64 0, .string (⟨#[]⟩:ByteArray)]) ?_ 1 _ rfl;(with_reducible repeat first|apply Jx|apply A7|apply K0);refine Tt (cs:=#[.int .i64 0, .int .i64 0, .int .i64 0, .string (⟨#[]⟩:ByteArray)]) ?_ 0 _ rfl;(with_reducible repeat first|apply Jx|apply A7|apply K0);exact BK110.out⟩
   have n4_:Aside0 (Below w.heap.size w ((((w37.setCell ⟨gb110,0,none⟩ (.int .i64 t106)).setCell ⟨gb110,1,none⟩ (.int .i64 t107)).setCell ⟨gb110,2,none⟩ (.int .i64 t108)).setCell ⟨gb110,3,none⟩ (.string t109))):=⟨by repeat first|(with_reducible first|exact HB.out|apply zA|apply zN|apply z1|refine zS ?_ GE101.out|refine zS ?_ GE102.out|refine zS ?_ GE103.out|refine zS ?_ GE110.out)|exact HB.out⟩
   (try clear BK101)
   (try clear BK102)
   (try clear BK103)
   (try clear BK110)
   (try clear HB)
   generalize ((((w37.setCell ⟨gb110,0,none⟩ (.int .i64 t106)).setCell ⟨gb110,1,none⟩ (.int .i64 t107)).setCell ⟨gb110,2,none⟩ (.int .i64 t108)).setCell ⟨gb110,3,none⟩ (.string t109)) = w42 at n0_ n1_ n2_ n3_ n4_ ⊢
   have BK101:=n0_
   have BK102:=n1_
   have BK103:=n2_
   have BK110:=n3_
   have HB:=n4_
   clear n0_ n1_ n2_ n3_ n4_
   have n0_:=z_ (A7 BK101.out)
   have n1_:=z_ (A7 BK102.out)
   have n2_:=z_ (A7 BK103.out)
   have n3_:=z_ (A7 BK110.out)
   have n4_:=z_ (z1 HB.out)
   clear BK101
   clear BK102
   clear BK103
   clear BK110
   clear HB
   have BK101:=n0_
   have BK102:=n1_
   have BK103:=n2_
   have BK110:=n3_
   have HB:=n4_
   clear n0_ n1_ n2_ n3_ n4_
   refine start_ (n:=8) (S:=fun w'=>w'.cell? ⟨gb110,0,none⟩ = some (.int .i64 t106) ∧ w'.cell? ⟨gb110,1,none⟩ = some (.int .i64 t107) ∧ w'.cell? ⟨gb110,2,none⟩ = some (.int .i64 t108) ∧ w'.cell? ⟨gb110,3,none⟩ = some (.string t109)) (ds:=[]) #[false,false,false,false,false,false,false,false] (by kernel_rfl) rfl rfl ⟨(Oi BK110.out 0).trans rfl,(Oi BK110.out 1).trans rfl,(Oi BK110.out 2).trans rfl,(Oi BK110.out 3).trans rfl⟩ (fun hHeld=>?_);refine with_tabW Aec.tab9 Aec.bits9 (fun HT_ HW_=>?_)
   generalize w42.drew = w43 at BK101 BK102 BK103 BK110 HB hHeld ⊢
   refine pure_ (i:=1) (N:=some 49) (v:=?_) (a':=?_) #[false,true,false,false,false,false,false,false] rfl rfl (any_of HT_.out (by kernel_rfl)) (fun _ _ _ h=>h) (Or.inl ⟨by rfl,?_⟩) ?_ ?_
   rotate_left
   ·intro w'
    go_simp
    with_reducible rfl
   rotate_left
   ·simp only [Act.put,List.setIfInBounds_toArray,List.set_cons_zero,List.set_cons_succ,i64_w,i32_w]
    rfl
   refine pure_ (i:=2) (N:=some 50) (v:=?_) (a':=?_) #[false,true,true,false,false,false,false,false] rfl rfl (any_of HT_.out (by kernel_rfl)) (fun _ _ _ h=>h) (Or.inl ⟨by rfl,?_⟩) ?_ ?_
   rotate_left
   ·intro w'
    go_simp
    with_reducible rfl
   rotate_left
   ·simp only [Act.put,List.setIfInBounds_toArray,List.set_cons_zero,List.set_cons_succ,i64_w,i32_w]
    rfl
   refine pure_ (i:=3) (N:=some 51) (v:=undef) (a':=?_) #[false,true,true,true,false,false,false,false] rfl rfl (any_of HT_.out (by kernel_rfl)) (fun _ _ _ h=>h) (Or.inr ⟨by rfl,rfl⟩) ?_ ?_
   rotate_left
   ·simp only [Act.put,List.setIfInBounds_toArray,List.set_cons_zero,List.set_cons_succ,i64_w,i32_w]
    rfl
   refine pure_ (i:=4) (N:=some 52) (v:=undef) (a':=?_) #[false,true,true,true,true,false,false,false] rfl rfl (any_of HT_.out (by kernel_rfl)) (fun _ _ _ h=>h) (Or.inr ⟨by rfl,rfl⟩) ?_ ?_
   rotate_left
   ·simp only [Act.put,List.setIfInBounds_toArray,List.set_cons_zero,List.set_cons_succ,i64_w,i32_w]
    rfl
   refine pure_ (i:=5) (N:=some 53) (v:=?_) (a':=?_) #[false,true,true,true,true,true,false,false] rfl rfl (any_of HT_.out (by kernel_rfl)) (fun _ _ _ h=>h) (Or.inl ⟨by rfl,?_⟩) ?_ ?_
   rotate_left
   ·intro w'
    go_simp
    with_reducible rfl
   rotate_left
   ·simp only [Act.put,List.setIfInBounds_toArray,List.set_cons_zero,List.set_cons_succ,i64_w,i32_w]
    rfl
   refine take_ (i:=0) (N:=some 48) (v:=?_) (a':=?_) #[true,true,true,true,true,true,false,false] rfl rfl (take_ofW HT_.out HW_.out (by kernel_rfl)) (fun _ _ _ h=>h) (Or.inl ⟨by rfl,?_⟩) hHeld ?_ ?_
   rotate_left
   ·rintro w' ⟨s0,s1,s2,s3⟩
    go_simp
    with_reducible rfl
   rotate_left
   ·simp only [Act.put,List.setIfInBounds_toArray,List.set_cons_zero,List.set_cons_succ,i64_w,i32_w]
    rfl
   refine one_ (i:=6) (N:=none) #[true,true,true,true,true,true,true,false] rfl rfl (one_of HT_.out (by kernel_rfl)) (by decide) (fun K hK=>?_)
   have hs44:w43.cell? ⟨gb103,0,none⟩ = some (.int .i64 0):=(Oi BK103.out 0).trans rfl
   have hfs44:=S3 BK103.out 0
   have hns44_0:=NB101_103.out
   have hns44_1:=NB102_103.out
   have hns44_3:=NB110_103.out
   have hms44_0:=NB103_101.out
   have hms44_1:=NB103_102.out
   have hms44_3:=NB103_110.out
   have hs45:w43.cell? ⟨gb103,1,none⟩ = some (.int .i64 0):=(Oi BK103.out 1).trans rfl
   have hfs45:=S3 BK103.out 1
   have hns45_0:=NB101_103.out
   have hns45_1:=NB102_103.out
   have hns45_3:=NB110_103.out
   have hms45_0:=NB103_101.out
   have hms45_1:=NB103_102.out
   have hms45_3:=NB103_110.out
   have hs46:w43.cell? ⟨gb103,2,none⟩ = some (.int .i64 0):=(Oi BK103.out 2).trans rfl
   have hfs46:=S3 BK103.out 2
   have hns46_0:=NB101_103.out
   have hns46_1:=NB102_103.out
   have hns46_3:=NB110_103.out
   have hms46_0:=NB103_101.out
   have hms46_1:=NB103_102.out
   have hms46_3:=NB103_110.out
   have hs47:w43.cell? ⟨gb103,3,none⟩ = some (.string (⟨#[]⟩:ByteArray)):=(Oi BK103.out 3).trans rfl
   have hfs47:=S3 BK103.out 3
   have hns47_0:=NB101_103.out
   have hns47_1:=NB102_103.out
   have hns47_3:=NB110_103.out
   have hms47_0:=NB103_101.out
   have hms47_1:=NB103_102.out
   have hms47_3:=NB103_110.out
   refine skip_ (w1:=?_) (by rfl) rfl ?_ ?_
   rotate_left
   ·go_simp
    rfl
   refine hK.out _ _ ⟨((cell_far (p:=⟨gb103,_,none⟩) NB110_103.out _).trans (((cell_far (p:=⟨gb103,_,none⟩) NB110_103.out _).trans (((cell_far (p:=⟨gb103,_,none⟩) NB110_103.out _).trans (((cell_far (p:=⟨gb103,_,none⟩) NB110_103.out _).trans (hHeld.1)))))))),((cell_far (p:=⟨gb103,_,none⟩) NB110_103.out _).trans (((cell_far (p:=⟨gb103,_,none⟩) NB110_103.out _).trans (((cell_far (p:=⟨gb103,_,none⟩) NB110_103.out _).trans (((cell_far (p:=⟨gb103,_,none⟩) NB110_103.out _).trans (hHeld.2.1)))))))),((cell_far (p:=⟨gb103,_,none⟩) NB110_103.out _).trans (((cell_far (p:=⟨gb103,_,none⟩) NB110_103.out _).trans (((cell_far (p:=⟨gb103,_,none⟩) NB110_103.out _).trans (((cell_far (p:=⟨gb103,_,none⟩) NB110_103.out _).trans (hHeld.2.2.1)))))))),((cell_far (p:=⟨gb103,_,none⟩) NB110_103.out _).trans (((cell_far (p:=⟨gb103,_,none⟩) NB110_103.out _).trans (((cell_far (p:=⟨gb103,_,none⟩) NB110_103.out _).trans (((cell_far (p:=⟨gb103,_,none⟩) NB110_103.out _).trans (hHeld.2.2.2))))))))⟩ (fun hHeld=>?_)
   clear hK K
   refine pure_ (i:=7) (N:=some 7) (v:=?_) (a':=?_) #[true,true,true,true,true,true,true,true] rfl rfl (any_of HT_.out (by kernel_rfl)) (fun _ _ _ h=>h) (Or.inl ⟨by rfl,?_⟩) ?_ ?_
   rotate_left
   ·intro w'
    go_simp
    with_reducible rfl
   rotate_left
   ·simp only [Act.put,List.setIfInBounds_toArray,List.set_cons_zero,List.set_cons_succ,i64_w,i32_w]
    rfl
   refine done_ (done_of HT_.out (by kernel_rfl)) ?_
   try go_wp2
   refine bodyPost_ret (results_ct rfl _ _ gb103 28 #[.int .i64 t106, .int .i64 t107, .int .i64 t108, .string t109] (0,0) _ rfl A4w Try.underlying28 rfl (by kernel_rfl)) rfl ?_
   exact ⟨by first|rfl|(simp [errW_none,errW_some] <;> rfl)|(simp [*,errW_none,errW_some] <;> rfl),by repeat first|(with_reducible first|exact HB.out|apply zA|apply zN|apply z1|refine zS ?_ GE101.out|refine zS ?_ GE102.out|refine zS ?_ GE103.out|refine zS ?_ GE110.out)|exact HB.out⟩
 ·rw [if_neg c4] at H
  have c4b0:(a0 == 6) = false:=beq_eq_false_iff_ne.mpr c4
  have c4b1:(a0 != 6) = true:=bne_iff_ne.mpr c4
  replace H:=Option.bind_eq_some_iff.mp H
  obtain ⟨⟨t112,t113,t114,t115⟩,A480,H⟩:=H
  replace H:(if t115 = true then ((Amp.f a0 t112 t113).bind fun bt116=>((Ad9.f k 3 bt116.1 t114 (⟨#[]⟩:ByteArray)).bind fun bt118=>(if bt116.2 = true then ((val_Right.f k bt118.1 bt118.2.1 bt118.2.2.1 bt118.2.2.2).bind fun t123=>(some (bt118.1,bt118.2.1,bt118.2.2.1,bt118.2.2.2,t123))) else (some (bt118.1,bt118.2.1,bt118.2.2.1,bt118.2.2.2,false))))) else (some (0,0,0,(⟨#[]⟩:ByteArray),false))) = some (r1,r2,r3,r4,r5):=H
  have A48:=z_ A480
  clear A480
  by_cases c49:t115 = true
  focus
   subst c49
   have H1:((Amp.f a0 t112 t113).bind fun bt116=>((Ad9.f k 3 bt116.1 t114 (⟨#[]⟩:ByteArray)).bind fun bt118=>(if bt116.2 = true then ((val_Right.f k bt118.1 bt118.2.1 bt118.2.2.1 bt118.2.2.2).bind fun t123=>(some (bt118.1,bt118.2.1,bt118.2.2.1,bt118.2.2.2,t123))) else (some (bt118.1,bt118.2.1,bt118.2.2.1,bt118.2.2.2,false))))) = some (r1,r2,r3,r4,r5):=by rw [if_pos rfl] at H;exact H
   clear H
   have H:=H1
   clear H1
   replace H:=Option.bind_eq_some_iff.mp H
   obtain ⟨⟨t116,t117⟩,A500,H⟩:=H
   replace H:((Ad9.f k 3 t116 t114 (⟨#[]⟩:ByteArray)).bind fun bt118=>(if t117 = true then ((val_Right.f k bt118.1 bt118.2.1 bt118.2.2.1 bt118.2.2.2).bind fun t123=>(some (bt118.1,bt118.2.1,bt118.2.2.1,bt118.2.2.2,t123))) else (some (bt118.1,bt118.2.1,bt118.2.2.1,bt118.2.2.2,false)))) = some (r1,r2,r3,r4,r5):=H
   have A50:=z_ A500
   clear A500
   replace H:=Option.bind_eq_some_iff.mp H
   obtain ⟨⟨t118,t119,t120,t121⟩,A510,H⟩:=H
   replace H:(if t117 = true then ((val_Right.f k t118 t119 t120 t121).bind fun t123=>(some (t118,t119,t120,t121,t123))) else (some (t118,t119,t120,t121,false))) = some (r1,r2,r3,r4,r5):=H
   have A51:=z_ A510
   clear A510
   by_cases c52:t117 = true
   focus
    subst c52
    have H1:((val_Right.f k t118 t119 t120 t121).bind fun t123=>(some (t118,t119,t120,t121,t123))) = some (r1,r2,r3,r4,r5):=by rw [if_pos rfl] at H;exact H
    clear H
    have H:=H1
    clear H1
    replace H:=Option.bind_eq_some_iff.mp H
    obtain ⟨t123,A530,H⟩:=H
    replace H:(some (t118,t119,t120,t121,t123)) = some (r1,r2,r3,r4,r5):=H
    have A53:=z_ A530
    clear A530
    simp only [Option.some.injEq,Prod.mk.injEq] at H
    obtain ⟨rfl,rfl,rfl,rfl,rfl⟩:=H
   rotate_left
   focus
    replace c52:=Bool.eq_false_iff.mpr c52
    subst c52
    have H1:(some (t118,t119,t120,t121,false)) = some (r1,r2,r3,r4,r5):=by rw [if_neg (show ¬ (false = true) by decide)] at H;exact H
    clear H
    have H:=H1
    clear H1
    simp only [Option.some.injEq,Prod.mk.injEq] at H
    obtain ⟨rfl,rfl,rfl,rfl,rfl⟩:=H
   rotate_left
  rotate_left 2
  focus
   replace c49:=Bool.eq_false_iff.mpr c49
   subst c49
   have H1:(some (0,0,0,(⟨#[]⟩:ByteArray),false)) = some (r1,r2,r3,r4,r5):=by rw [if_neg (show ¬ (false = true) by decide)] at H;exact H
   clear H
   have H:=H1
   clear H1
   simp only [Option.some.injEq,Prod.mk.injEq] at H
   obtain ⟨rfl,rfl,rfl,rfl,rfl⟩:=H
  rotate_left
  all_goals
   go_enter Try.func81,Try.ntmps81
   try go_wp2_with (first|((with_reducible refine gate_dst (N:=4) rfl ?_);refine box_event (by rfl) (N:=4) (by rfl) (cs:=#[.int .i64 a1_0, .int .i64 a1_1, .int .i64 a1_2, .string a1_3]) (t:=28) W3 ?_;intro gb101 hg w54 hbox hb;have BK101:=z_ (hbox);have GW101:=z_ ((W0:w.heap.size ≤ gb101));have GE101:=z_ ((W0:w.heap.size ≤ gb101));replace HB:=z_ (below_step W5 hb);clear hb hbox hg)|((with_reducible refine gate_dst (N:=5) rfl ?_);refine box_event (by rfl) (N:=5) (by rfl) (cs:=#[.int .i64 a2_0, .int .i64 a2_1, .int .i64 a2_2, .string a2_3]) (t:=28) W3 ?_;intro gb102 hg w55 hbox hb;have BK102:=z_ (hbox);have GW102:=z_ ((W6:w.heap.size ≤ gb102));have GE102:=z_ ((W6:w.heap.size ≤ gb102));replace HB:=z_ (below_step zp1 hb);have NB101_102:=z_ ((Aeh:gb101 ≠ gb102));have NB102_101:=z_ ((Aei:gb102 ≠ gb101));replace BK101:=z_ (zk BK101.out hb);clear hb hbox hg)|((with_reducible refine gate_dst (N:=6) rfl ?_);refine box_event (by rfl) (N:=6) (by rfl) (cs:=#[.int .i64 0, .int .i64 0, .int .i64 0, .string (⟨#[]⟩:ByteArray)]) (t:=28) W3 ?_;intro gb103 hg w56 hbox hb;have BK103:=z_ (hbox);have GW103:=z_ ((Aen:w.heap.size ≤ gb103));have GE103:=z_ ((Aen:w.heap.size ≤ gb103));replace HB:=z_ (below_step zp5 hb);have NB101_103:=z_ ((Aeh:gb101 ≠ gb103));have NB103_101:=z_ ((Aei:gb103 ≠ gb101));replace BK101:=z_ (zk BK101.out hb);have NB102_103:=z_ ((Amd:gb102 ≠ gb103));have NB103_102:=z_ ((Aet:gb103 ≠ gb102));replace BK102:=z_ (zk BK102.out hb);clear hb hbox hg))
   have n0_:=z_ (A7 BK101.out)
   have n1_:=z_ (A7 BK102.out)
   have n2_:=z_ (A7 BK103.out)
   have n3_:=z_ (z1 HB.out)
   clear BK101
   clear BK102
   clear BK103
   clear HB
   have BK101:=n0_
   have BK102:=n1_
   have BK103:=n2_
   have HB:=n3_
   clear n0_ n1_ n2_ n3_
   refine start_ (n:=12) (S:=fun w'=>w'.cell? ⟨gb101,0,none⟩ = some (.int .i64 a1_0) ∧ w'.cell? ⟨gb101,1,none⟩ = some (.int .i64 a1_1) ∧ w'.cell? ⟨gb101,2,none⟩ = some (.int .i64 a1_2) ∧ w'.cell? ⟨gb101,3,none⟩ = some (.string a1_3) ∧ w'.cell? ⟨gb102,0,none⟩ = some (.int .i64 a2_0) ∧ w'.cell? ⟨gb102,1,none⟩ = some (.int .i64 a2_1) ∧ w'.cell? ⟨gb102,2,none⟩ = some (.int .i64 a2_2) ∧ w'.cell? ⟨gb102,3,none⟩ = some (.string a2_3)) (ds:=[]) #[false,false,false,false,false,false,false,false,false,false,false,false] (by kernel_rfl) rfl rfl ⟨(Oi BK101.out 0).trans rfl,(Oi BK101.out 1).trans rfl,(Oi BK101.out 2).trans rfl,(Oi BK101.out 3).trans rfl,(Oi BK102.out 0).trans rfl,(Oi BK102.out 1).trans rfl,(Oi BK102.out 2).trans rfl,(Oi BK102.out 3).trans rfl⟩ (fun hHeld=>?_);refine with_tabW Aec.tab1 Aec.bits1 (fun HT_ HW_=>?_)
   generalize w56.drew = w57 at BK101 BK102 BK103 HB hHeld ⊢
   refine pure_ (i:=0) (N:=some 15) (v:=?_) (a':=?_) #[true,false,false,false,false,false,false,false,false,false,false,false] rfl rfl (any_of HT_.out (by kernel_rfl)) (fun _ _ _ h=>h) (Or.inl ⟨by rfl,?_⟩) ?_ ?_
   rotate_left
   ·intro w'
    go_simp
    with_reducible rfl
   rotate_left
   ·simp only [Act.put,List.setIfInBounds_toArray,List.set_cons_zero,List.set_cons_succ,i64_w,i32_w]
    rfl
   refine pure_ (i:=2) (N:=some 17) (v:=?_) (a':=?_) #[true,false,true,false,false,false,false,false,false,false,false,false] rfl rfl (any_of HT_.out (by kernel_rfl)) (fun _ _ _ h=>h) (Or.inl ⟨by rfl,?_⟩) ?_ ?_
   rotate_left
   ·intro w'
    go_simp
    with_reducible rfl
   rotate_left
   ·simp only [Act.put,List.setIfInBounds_toArray,List.set_cons_zero,List.set_cons_succ,i64_w,i32_w]
    rfl
   refine pure_ (i:=4) (N:=some 19) (v:=?_) (a':=?_) #[true,false,true,false,true,false,false,false,false,false,false,false] rfl rfl (any_of HT_.out (by kernel_rfl)) (fun _ _ _ h=>h) (Or.inl ⟨by rfl,?_⟩) ?_ ?_
   rotate_left
   ·intro w'
    go_simp
    with_reducible rfl
   rotate_left
   ·simp only [Act.put,List.setIfInBounds_toArray,List.set_cons_zero,List.set_cons_succ,i64_w,i32_w]
    rfl
   refine pure_ (i:=6) (N:=some 21) (v:=?_) (a':=?_) #[true,false,true,false,true,false,true,false,false,false,false,false] rfl rfl (any_of HT_.out (by kernel_rfl)) (fun _ _ _ h=>h) (Or.inl ⟨by rfl,?_⟩) ?_ ?_
   rotate_left
   ·intro w'
    go_simp
    with_reducible rfl
   rotate_left
   ·simp only [Act.put,List.setIfInBounds_toArray,List.set_cons_zero,List.set_cons_succ,i64_w,i32_w]
    rfl
   refine take_ (i:=1) (N:=some 16) (v:=?_) (a':=?_) #[true,true,true,false,true,false,true,false,false,false,false,false] rfl rfl (take_ofW HT_.out HW_.out (by kernel_rfl)) (fun _ _ _ h=>h) (Or.inl ⟨by rfl,?_⟩) hHeld ?_ ?_
   rotate_left
   ·rintro w' ⟨s0,s1,s2,s3,s4,s5,s6,s7⟩
    go_simp
    with_reducible rfl
   rotate_left
   ·simp only [Act.put,List.setIfInBounds_toArray,List.set_cons_zero,List.set_cons_succ,i64_w,i32_w]
    rfl
   refine pure_ (i:=9) (N:=some 8) (v:=?_) (a':=?_) #[true,true,true,false,true,false,true,false,false,true,false,false] rfl rfl (any_of HT_.out (by kernel_rfl)) (fun _ _ _ h=>h) (Or.inl ⟨by rfl,?_⟩) ?_ ?_
   rotate_left
   ·intro w'
    go_simp
    with_reducible rfl
   rotate_left
   ·simp only [Act.put,List.setIfInBounds_toArray,List.set_cons_zero,List.set_cons_succ,i64_w,i32_w]
    rfl
   refine take_ (i:=3) (N:=some 18) (v:=?_) (a':=?_) #[true,true,true,true,true,false,true,false,false,true,false,false] rfl rfl (take_ofW HT_.out HW_.out (by kernel_rfl)) (fun _ _ _ h=>h) (Or.inl ⟨by rfl,?_⟩) hHeld ?_ ?_
   rotate_left
   ·rintro w' ⟨s0,s1,s2,s3,s4,s5,s6,s7⟩
    go_simp
    with_reducible rfl
   rotate_left
   ·simp only [Act.put,List.setIfInBounds_toArray,List.set_cons_zero,List.set_cons_succ,i64_w,i32_w]
    rfl
   refine pure_ (i:=10) (N:=some 9) (v:=?_) (a':=?_) #[true,true,true,true,true,false,true,false,false,true,true,false] rfl rfl (any_of HT_.out (by kernel_rfl)) (fun _ _ _ h=>h) (Or.inl ⟨by rfl,?_⟩) ?_ ?_
   rotate_left
   ·intro w'
    go_simp
    with_reducible rfl
   rotate_left
   ·simp only [Act.put,List.setIfInBounds_toArray,List.set_cons_zero,List.set_cons_succ,i64_w,i32_w]
    rfl
   refine take_ (i:=5) (N:=some 20) (v:=?_) (a':=?_) #[true,true,true,true,true,true,true,false,false,true,true,false] rfl rfl (take_ofW HT_.out HW_.out (by kernel_rfl)) (fun _ _ _ h=>h) (Or.inl ⟨by rfl,?_⟩) hHeld ?_ ?_
   rotate_left
   ·rintro w' ⟨s0,s1,s2,s3,s4,s5,s6,s7⟩
    go_simp
    with_reducible rfl
   rotate_left
   ·simp only [Act.put,List.setIfInBounds_toArray,List.set_cons_zero,List.set_cons_succ,i64_w,i32_w]
    rfl
   refine take_ (i:=7) (N:=some 22) (v:=?_) (a':=?_) #[true,true,true,true,true,true,true,true,false,true,true,false] rfl rfl (take_ofW HT_.out HW_.out (by kernel_rfl)) (fun _ _ _ h=>h) (Or.inl ⟨by rfl,?_⟩) hHeld ?_ ?_
   rotate_left
   ·rintro w' ⟨s0,s1,s2,s3,s4,s5,s6,s7⟩
    go_simp
    with_reducible rfl
   rotate_left
   ·simp only [Act.put,List.setIfInBounds_toArray,List.set_cons_zero,List.set_cons_succ,i64_w,i32_w]
    rfl
   refine pure_ (i:=8) (N:=some 23) (v:=?_) (a':=?_) #[true,true,true,true,true,true,true,true,true,true,true,false] rfl rfl (any_of HT_.out (by kernel_rfl)) (fun _ _ _ h=>h) (Or.inl ⟨by rfl,?_⟩) ?_ ?_
   rotate_left
   ·intro w'
    go_simp
    with_reducible rfl
   rotate_left
   ·simp only [Act.put,List.setIfInBounds_toArray,List.set_cons_zero,List.set_cons_succ,i64_w,i32_w]
    rfl
   refine pure_ (i:=11) (N:=some 10) (v:=?_) (a':=?_) #[true,true,true,true,true,true,true,true,true,true,true,true] rfl rfl (any_of HT_.out (by kernel_rfl)) (fun _ _ _ h=>h) (Or.inl ⟨by rfl,?_⟩) ?_ ?_
   rotate_left
   ·intro w'
    go_simp
    with_reducible rfl
   rotate_left
   ·simp only [Act.put,List.setIfInBounds_toArray,List.set_cons_zero,List.set_cons_succ,i64_w,i32_w]
    rfl
   refine done_ (done_of HT_.out (by kernel_rfl)) ?_
   have hnb58:=NB101_102.out
   have hnc58:=NB102_101.out
   have hnb59:=NB101_103.out
   have hnc59:=NB103_101.out
   obtain ⟨_,_,_,_,_,_,_,_⟩:=Rr BK101.out
   have hnb61:=NB102_103.out
   have hnc61:=NB103_102.out
   have hcz62_0:w57.cell? ⟨gb102,0,none⟩ = some (.int .i64 a2_0):=(Oi BK102.out 0).trans rfl
   have hcz62_1:w57.cell? ⟨gb102,1,none⟩ = some (.int .i64 a2_1):=(Oi BK102.out 1).trans rfl
   have hcz62_2:w57.cell? ⟨gb102,2,none⟩ = some (.int .i64 a2_2):=(Oi BK102.out 2).trans rfl
   have hcz62_3:w57.cell? ⟨gb102,3,none⟩ = some (.string a2_3):=(Oi BK102.out 3).trans rfl
   have hfz62_0:=S3 BK102.out 0
   have hfz62_1:=S3 BK102.out 1
   have hfz62_2:=S3 BK102.out 2
  ·have hfz62_3:=S3 BK102.out 3
   try go_wp2_with (first|((with_reducible refine gate_callee (f:=93) rfl ?_);refine goesL_ (some 29) rfl rfl Try.func93 (by kernel_rfl) rfl #[.agg #[.int .i64 a1_0, .int .i64 a1_1, .int .i64 a1_2, .string a1_3], .agg #[.int .i64 a2_0, .int .i64 a2_1, .int .i64 a2_2, .string a2_3]] rfl W4 ?_;(with_reducible refine (A1e.calls k a1_0 a1_1 a1_2 a1_3 a2_0 a2_1 a2_2 a2_3 t112 t113 t114 true _ A48.out).mono ?_);rintro e w63 ⟨rfl,hb⟩;refine ⟨_,rfl,?_⟩;replace BK101:=z_ (zk BK101.out hb);replace BK102:=z_ (zk BK102.out hb);replace BK103:=z_ (zk BK103.out hb);replace HB:=z_ (below_step zp3 hb);(try clear hb);(try clear hb2);(try clear hk);(try clear hi))|((with_reducible refine gate_callee (f:=92) rfl ?_);refine goesL_ (some 41) rfl rfl Try.func92 (by kernel_rfl) rfl #[.int .i64 a0, .int .i64 t112, .int .i64 t113] rfl W4 ?_;(with_reducible refine (Amp.calls a0 t112 t113 t116 true _ A50.out).mono ?_);rintro e w' ⟨rfl,⟨nd,rfl⟩⟩;refine ⟨_,rfl,?_⟩;(try (rw [drewN_self w63];generalize hq_:World.drewN w63 _ = w63;have n0_:Aside0 (w63.heap[gb101]? = some (.cells #[.int .i64 a1_0, .int .i64 a1_1, .int .i64 a1_2, .string a1_3] 28 (0,0))):=⟨by rw [← hq_];exact zp2⟩;have n1_:Aside0 (w63.heap[gb102]? = some (.cells #[.int .i64 a2_0, .int .i64 a2_1, .int .i64 a2_2, .string a2_3] 28 (0,0))):=⟨by rw [← hq_];exact zp7⟩;have n2_:Aside0 (w63.heap[gb103]? = some (.cells #[.int .i64 0, .int .i64 0, .int .i64 0, .string (⟨#[]⟩:ByteArray)] 28 (0,0))):=⟨by rw [← hq_];exact Aeq⟩;have n3_:Aside0 (Below w.heap.size w w63):=⟨by rw [← hq_];exact zp3⟩;clear BK101 BK102 BK103 HB hq_;have BK101:=n0_;have BK102:=n1_;have BK103:=n2_;have HB:=n3_;clear n0_ n1_ n2_ n3_));(try have hcu64_0:w63.cell? ⟨gb101,0,none⟩ = some (.int .i64 a1_0):=(Oi BK101.out 0).trans rfl);(try have hcu64_1:w63.cell? ⟨gb101,1,none⟩ = some (.int .i64 a1_1):=(Oi BK101.out 1).trans rfl);(try have hcu64_2:w63.cell? ⟨gb101,2,none⟩ = some (.int .i64 a1_2):=(Oi BK101.out 2).trans rfl);(try have hcu64_3:w63.cell? ⟨gb101,3,none⟩ = some (.string a1_3):=(Oi BK101.out 3).trans rfl);(try have hfu64_0:=S3 BK101.out 0);(try have hfu64_1:=S3 BK101.out 1);(try have hfu64_2:=S3 BK101.out 2);(try have hfu64_3:=S3 BK101.out 3);(try have hcu65_0:w63.cell? ⟨gb102,0,none⟩ = some (.int .i64 a2_0):=(Oi BK102.out 0).trans rfl);(try have hcu65_1:w63.cell? ⟨gb102,1,none⟩ = some (.int .i64 a2_1):=(Oi BK102.out 1).trans rfl);(try have hcu65_2:w63.cell? ⟨gb102,2,none⟩ = some (.int .i64 a2_2):=(Oi BK102.out 2).trans rfl);(try have hcu65_3:w63.cell? ⟨gb102,3,none⟩ = some (.string a2_3):=(Oi BK102.out 3).trans rfl);(try have hfu65_0:=S3 BK102.out 0);(try have hfu65_1:=S3 BK102.out 1);(try have hfu65_2:=S3 BK102.out 2);(try have hfu65_3:=S3 BK102.out 3);(try have hcu66_0:w63.cell? ⟨gb103,0,none⟩ = some (.int .i64 0):=(Oi BK103.out 0).trans rfl);(try have hcu66_1:w63.cell? ⟨gb103,1,none⟩ = some (.int .i64 0):=(Oi BK103.out 1).trans rfl);(try have hcu66_2:w63.cell? ⟨gb103,2,none⟩ = some (.int .i64 0):=(Oi BK103.out 2).trans rfl);(try have hcu66_3:w63.cell? ⟨gb103,3,none⟩ = some (.string (⟨#[]⟩:ByteArray)):=(Oi BK103.out 3).trans rfl);(try have hfu66_0:=S3 BK103.out 0);(try have hfu66_1:=S3 BK103.out 1);(try have hfu66_2:=S3 BK103.out 2);(try have hfu66_3:=S3 BK103.out 3))|((with_reducible refine gate_callee (f:=94) rfl ?_);refine goesL_ (some 47) rfl rfl Try.func94 (by kernel_rfl) rfl #[.agg #[.int .i64 3, .int .i64 t116, .int .i64 t114, .string (⟨#[]⟩:ByteArray)]] rfl W4 ?_;(with_reducible refine (Ad9.calls k 3 t116 t114 (⟨#[]⟩:ByteArray) t118 t119 t120 t121 _ A51.out).mono ?_);rintro e w67 ⟨rfl,hb⟩;refine ⟨_,rfl,?_⟩;replace BK101:=z_ (zk BK101.out hb);replace BK102:=z_ (zk BK102.out hb);replace BK103:=z_ (zk BK103.out hb);replace HB:=z_ (below_step zp3 hb);(try clear hb);(try clear hb2);(try clear hk);(try clear hi))|((with_reducible refine gate_dst (N:=14) rfl ?_);refine box_event (by rfl) (N:=14) (by rfl) (cs:=#[.int .i64 0, .int .i64 0, .int .i64 0, .string (⟨#[]⟩:ByteArray)]) (t:=28) W3 ?_;intro gb122 hg w68 hbox hb;have BK122:=z_ (hbox);have GW122:=z_ ((Aes:w.heap.size ≤ gb122));have GE122:=z_ ((Aes:w.heap.size ≤ gb122));replace HB:=z_ (below_step zp3 hb);have NB101_122:=z_ ((Aeh:gb101 ≠ gb122));have NB122_101:=z_ ((Aei:gb122 ≠ gb101));replace BK101:=z_ (zk BK101.out hb);have NB102_122:=z_ ((Amd:gb102 ≠ gb122));have NB122_102:=z_ ((Aet:gb122 ≠ gb102));replace BK102:=z_ (zk BK102.out hb);have NB103_122:=z_ ((A07:gb103 ≠ gb122));have NB122_103:=z_ ((A08:gb122 ≠ gb103));replace BK103:=z_ (zk BK103.out hb);clear hb hbox hg;have hnb69:=NB122_101.out;have hnc69:=NB101_122.out;have hnb70:=NB122_102.out;have hnc70:=NB102_122.out;have hnb71:=NB122_103.out;have hnc71:=NB103_122.out;obtain ⟨_,_,_,_,_,_,_,_⟩:=Rr BK122.out))
   have n0_:Aside0 (((((w68.setCell ⟨gb122,0,none⟩ (.int .i64 t118)).setCell ⟨gb122,1,none⟩ (.int .i64 t119)).setCell ⟨gb122,2,none⟩ (.int .i64 t120)).setCell ⟨gb122,3,none⟩ (.string t121)).heap[gb101]? = some (.cells #[.int .i64 a1_0, .int .i64 a1_1, .int .i64 a1_2, .string a1_3] 28 (0,0))):=⟨by (with_reducible repeat first|apply Jx|apply A7|apply K0);refine S0 ?_ NB101_122.out _;(with_reducible repeat first|apply Jx|apply A7|apply K0);refine S0 ?_ NB101_122.out _;(with_reducible repeat first|apply Jx|apply A7|apply K0);refine S0 ?_ NB101_122.out _;(with_reducible repeat first|apply Jx|apply A7|apply K0);refine S0 ?_ NB101_122.out _;(with_reducible repeat first|apply Jx|apply A7|apply K0);exact BK101.out⟩
   have n1_:Aside0 (((((w68.setCell ⟨gb122,0,none⟩ (.int .i64 t118)).setCell ⟨gb122,1,none⟩ (.int .i64 t119)).setCell ⟨gb122,2,none⟩ (.int .i64 t120)).setCell ⟨gb122,3,none⟩ (.string t121)).heap[gb102]? = some (.cells #[.int .i64 a2_0, .int .i64 a2_1, .int .i64 a2_2, .string a2_3] 28 (0,0))):=⟨by (with_reducible repeat first|apply Jx|apply A7|apply K0);refine S0 ?_ NB102_122.out _;(with_reducible repeat first|apply Jx|apply A7|apply K0);refine S0 ?_ NB102_122.out _;(with_reducible repeat first|apply Jx|apply A7|apply K0);refine S0 ?_ NB102_122.out _;(with_reducible repeat first|apply Jx|apply A7|apply K0);refine S0 ?_ NB102_122.out _;(with_reducible repeat first|apply Jx|apply A7|apply K0);exact BK102.out⟩
   have n2_:Aside0 (((((w68.setCell ⟨gb122,0,none⟩ (.int .i64 t118)).setCell ⟨gb122,1,none⟩ (.int .i64 t119)).setCell ⟨gb122,2,none⟩ (.int .i64 t120)).setCell ⟨gb122,3,none⟩ (.string t121)).heap[gb103]? = some (.cells #[.int .i64 0, .int .i64 0, .int .i64 0, .string (⟨#[]⟩:ByteArray)] 28 (0,0))):=⟨by (with_reducible repeat first|apply Jx|apply A7|apply K0);refine S0 ?_ NB103_122.out _;(with_reducible repeat first|apply Jx|apply A7|apply K0);refine S0 ?_ NB103_122.out _;(with_reducible repeat first|apply Jx|apply A7|apply K0);refine S0 ?_ NB103_122.out _;(with_reducible repeat first|apply Jx|apply A7|apply K0);refine S0 ?_ NB103_122.out _;(with_reducible repeat first|apply Jx|apply A7|apply K0);exact BK103.out⟩
   have n3_:Aside0 (((((w68.setCell ⟨gb122,0,none⟩ (.int .i64 t118)).setCell ⟨gb122,1,none⟩ (.int .i64 t119)).setCell ⟨gb122,2,none⟩ (.int .i64 t120)).setCell ⟨gb122,3,none⟩ (.string t121)).heap[gb122]? = some (.cells #[.int .i64 t118, .int .i64 t119, .int .i64 t120, .string t121] 28 (0,0))):=⟨by (with_reducible repeat first|apply Jx|apply A7|apply K0);refine Tt (cs:=#[.int .i64 t118, .int .i64 t119, .int .i64 t120, .string (⟨#[]⟩:ByteArray)]) ?_ 3 _ rfl;(with_reducible repeat first|apply Jx|apply A7|apply K0);refine Tt (cs:=#[.int .i64 t118, .int .i64 t119, .int .i64 0, .string (⟨#[]⟩:ByteArray)]) ?_ 2 _ rfl;(with_reducible repeat first|apply Jx|apply A7|apply K0);refine Tt (cs:=#[.int .i64 t118, .int .i64 0, .int .i64 0, .string (⟨#[]⟩:ByteArray)]) ?_ 1 _ rfl;(with_reducible repeat first|apply Jx|apply A7|apply K0);refine Tt (cs:=#[.int .i64 0, .int .i64 0, .int .i64 0, .string (⟨#[]⟩:ByteArray)]) ?_ 0 _ rfl;(with_reducible repeat first|apply Jx|apply A7|apply K0);exact BK122.out⟩
   have n4_:Aside0 (Below w.heap.size w ((((w68.setCell ⟨gb122,0,none⟩ (.int .i64 t118)).setCell ⟨gb122,1,none⟩ (.int .i64 t119)).setCell ⟨gb122,2,none⟩ (.int .i64 t120)).setCell ⟨gb122,3,none⟩ (.string t121))):=⟨by repeat first|(with_reducible first|exact HB.out|apply zA|apply zN|apply z1|refine zS ?_ GE101.out|refine zS ?_ GE102.out|refine zS ?_ GE103.out|refine zS ?_ GE122.out)|exact HB.out⟩
   (try clear BK101)
   (try clear BK102)
   (try clear BK103)
   (try clear BK122)
   (try clear HB)
   generalize ((((w68.setCell ⟨gb122,0,none⟩ (.int .i64 t118)).setCell ⟨gb122,1,none⟩ (.int .i64 t119)).setCell ⟨gb122,2,none⟩ (.int .i64 t120)).setCell ⟨gb122,3,none⟩ (.string t121)) = w73 at n0_ n1_ n2_ n3_ n4_ ⊢
   have BK101:=n0_
   have BK102:=n1_
   have BK103:=n2_
   have BK122:=n3_
   have HB:=n4_
   clear n0_ n1_ n2_ n3_ n4_
   have n0_:=z_ (A7 BK101.out)
   have n1_:=z_ (A7 BK102.out)
   have n2_:=z_ (A7 BK103.out)
   have n3_:=z_ (A7 BK122.out)
   have n4_:=z_ (z1 HB.out)
   clear BK101
   clear BK102
   clear BK103
   clear BK122
   clear HB
   have BK101:=n0_
   have BK102:=n1_
   have BK103:=n2_
   have BK122:=n3_
   have HB:=n4_
   clear n0_ n1_ n2_ n3_ n4_
   refine start_ (n:=8) (S:=fun w'=>w'.cell? ⟨gb122,0,none⟩ = some (.int .i64 t118) ∧ w'.cell? ⟨gb122,1,none⟩ = some (.int .i64 t119) ∧ w'.cell? ⟨gb122,2,none⟩ = some (.int .i64 t120) ∧ w'.cell? ⟨gb122,3,none⟩ = some (.string t121)) (ds:=[]) #[false,false,false,false,false,false,false,false] (by kernel_rfl) rfl rfl ⟨(Oi BK122.out 0).trans rfl,(Oi BK122.out 1).trans rfl,(Oi BK122.out 2).trans rfl,(Oi BK122.out 3).trans rfl⟩ (fun hHeld=>?_);refine with_tabW Aec.tab9 Aec.bits9 (fun HT_ HW_=>?_)
   generalize w73.drew = w74 at BK101 BK102 BK103 BK122 HB hHeld ⊢
   refine pure_ (i:=1) (N:=some 49) (v:=?_) (a':=?_) #[false,true,false,false,false,false,false,false] rfl rfl (any_of HT_.out (by kernel_rfl)) (fun _ _ _ h=>h) (Or.inl ⟨by rfl,?_⟩) ?_ ?_
   rotate_left
   ·intro w'
    go_simp
    with_reducible rfl
   rotate_left
   ·simp only [Act.put,List.setIfInBounds_toArray,List.set_cons_zero,List.set_cons_succ,i64_w,i32_w]
    rfl
   refine pure_ (i:=2) (N:=some 50) (v:=?_) (a':=?_) #[false,true,true,false,false,false,false,false] rfl rfl (any_of HT_.out (by kernel_rfl)) (fun _ _ _ h=>h) (Or.inl ⟨by rfl,?_⟩) ?_ ?_
   rotate_left
   ·intro w'
    go_simp
    with_reducible rfl
   rotate_left
   ·simp only [Act.put,List.setIfInBounds_toArray,List.set_cons_zero,List.set_cons_succ,i64_w,i32_w]
    rfl
   refine take_ (i:=0) (N:=some 48) (v:=?_) (a':=?_) #[true,true,true,false,false,false,false,false] rfl rfl (take_ofW HT_.out HW_.out (by kernel_rfl)) (fun _ _ _ h=>h) (Or.inl ⟨by rfl,?_⟩) hHeld ?_ ?_
   rotate_left
   ·rintro w' ⟨s0,s1,s2,s3⟩
    go_simp
    with_reducible rfl
   rotate_left
   ·simp only [Act.put,List.setIfInBounds_toArray,List.set_cons_zero,List.set_cons_succ,i64_w,i32_w]
    rfl
   refine take_ (i:=3) (N:=some 51) (v:=?_) (a':=?_) #[true,true,true,true,false,false,false,false] rfl rfl (take_ofW HT_.out HW_.out (by kernel_rfl)) (fun _ _ _ h=>h) (Or.inl ⟨by rfl,?_⟩) hHeld ?_ ?_
   rotate_left
   ·rintro w' ⟨s0,s1,s2,s3⟩
    go_simp
    with_reducible rfl
   rotate_left
   ·simp only [Act.put,List.setIfInBounds_toArray,List.set_cons_zero,List.set_cons_succ,i64_w,i32_w]
    rfl
   refine one_ (i:=4) (N:=some 52) #[true,true,true,true,true,false,false,false] rfl rfl (one_of HT_.out (by kernel_rfl)) (by decide) (fun K hK=>?_)
   refine goes_ Try.func95 (by kernel_rfl) rfl #[.agg #[.int .i64 t118, .int .i64 t119, .int .i64 t120, .string t121]] (by rfl) rfl rfl W4 ?_
   with_reducible refine (val_Right.calls k t118 t119 t120 t121 t123 _ A53.out).mono ?_
   rintro e w75 ⟨rfl,hb⟩
   refine ⟨_,rfl,?_⟩
   have n0_:=z_ (zk BK101.out hb)
   have n1_:=z_ (zk BK102.out hb)
   have n2_:=z_ (zk BK103.out hb)
   have n3_:=z_ (zk BK122.out hb)
   have n4_:=z_ (below_step (by repeat first|(with_reducible first|exact HB.out|apply zA|apply zN|apply z1|refine zS ?_ GE101.out|refine zS ?_ GE102.out|refine zS ?_ GE103.out|refine zS ?_ GE122.out)|exact HB.out) hb)
   clear BK101
   clear BK102
   clear BK103
   clear BK122
   clear HB
   have BK101:=n0_
   have BK102:=n1_
   have BK103:=n2_
   have BK122:=n3_
   have HB:=n4_
   clear n0_ n1_ n2_ n3_ n4_
   (try clear hb)
   (try clear hb2)
   (try clear hk)
   (try clear hi)
   refine hK.out _ _ ⟨(Oi BK122.out 0).trans rfl,(Oi BK122.out 1).trans rfl,(Oi BK122.out 2).trans rfl,(Oi BK122.out 3).trans rfl⟩ (fun hHeld=>?_)
   clear hK K
   refine norm_ (a':=?_) ?_ ?_
   rotate_left
   ·show Act.put _ (some 52) _ = _
    simp only [Act.put,List.setIfInBounds_toArray,List.set_cons_zero,List.set_cons_succ,i64_w,i32_w]
    rfl
   refine pure_ (i:=5) (N:=some 53) (v:=?_) (a':=?_) #[true,true,true,true,true,true,false,false] rfl rfl (any_of HT_.out (by kernel_rfl)) (fun _ _ _ h=>h) (Or.inl ⟨by rfl,?_⟩) ?_ ?_
   rotate_left
   ·intro w'
    go_simp
    with_reducible rfl
   rotate_left
   ·simp only [Act.put,List.setIfInBounds_toArray,List.set_cons_zero,List.set_cons_succ,i64_w,i32_w]
    rfl
   refine one_ (i:=6) (N:=none) #[true,true,true,true,true,true,true,false] rfl rfl (one_of HT_.out (by kernel_rfl)) (by decide) (fun K hK=>?_)
   have hs76:w75.cell? ⟨gb103,0,none⟩ = some (.int .i64 0):=(Oi BK103.out 0).trans rfl
   have hfs76:=S3 BK103.out 0
   have hns76_0:=NB101_103.out
   have hns76_1:=NB102_103.out
   have hns76_3:=NB122_103.out
   have hms76_0:=NB103_101.out
   have hms76_1:=NB103_102.out
   have hms76_3:=NB103_122.out
   have hs77:w75.cell? ⟨gb103,1,none⟩ = some (.int .i64 0):=(Oi BK103.out 1).trans rfl
   have hfs77:=S3 BK103.out 1
   have hns77_0:=NB101_103.out
   have hns77_1:=NB102_103.out
   have hns77_3:=NB122_103.out
   have hms77_0:=NB103_101.out
   have hms77_1:=NB103_102.out
   have hms77_3:=NB103_122.out
   have hs78:w75.cell? ⟨gb103,2,none⟩ = some (.int .i64 0):=(Oi BK103.out 2).trans rfl
   have hfs78:=S3 BK103.out 2
   have hns78_0:=NB101_103.out
   have hns78_1:=NB102_103.out
   have hns78_3:=NB122_103.out
   have hms78_0:=NB103_101.out
   have hms78_1:=NB103_102.out
   have hms78_3:=NB103_122.out
   have hs79:w75.cell? ⟨gb103,3,none⟩ = some (.string (⟨#[]⟩:ByteArray)):=(Oi BK103.out 3).trans rfl
   have hfs79:=S3 BK103.out 3
   have hns79_0:=NB101_103.out
   have hns79_1:=NB102_103.out
   have hns79_3:=NB122_103.out
   have hms79_0:=NB103_101.out
   have hms79_1:=NB103_102.out
   have hms79_3:=NB103_122.out
   refine skip_ (w1:=?_) (by rfl) rfl ?_ ?_
   rotate_left
   ·go_simp
    rfl
   refine hK.out _ _ ⟨((cell_far (p:=⟨gb103,_,none⟩) NB122_103.out _).trans (((cell_far (p:=⟨gb103,_,none⟩) NB122_103.out _).trans (((cell_far (p:=⟨gb103,_,none⟩) NB122_103.out _).trans (((cell_far (p:=⟨gb103,_,none⟩) NB122_103.out _).trans (hHeld.1)))))))),((cell_far (p:=⟨gb103,_,none⟩) NB122_103.out _).trans (((cell_far (p:=⟨gb103,_,none⟩) NB122_103.out _).trans (((cell_far (p:=⟨gb103,_,none⟩) NB122_103.out _).trans (((cell_far (p:=⟨gb103,_,none⟩) NB122_103.out _).trans (hHeld.2.1)))))))),((cell_far (p:=⟨gb103,_,none⟩) NB122_103.out _).trans (((cell_far (p:=⟨gb103,_,none⟩) NB122_103.out _).trans (((cell_far (p:=⟨gb103,_,none⟩) NB122_103.out _).trans (((cell_far (p:=⟨gb103,_,none⟩) NB122_103.out _).trans (hHeld.2.2.1)))))))),((cell_far (p:=⟨gb103,_,none⟩) NB122_103.out _).trans (((cell_far (p:=⟨gb103,_,none⟩) NB122_103.out _).trans (((cell_far (p:=⟨gb103,_,none⟩) NB122_103.out _).trans (((cell_far (p:=⟨gb103,_,none⟩) NB122_103.out _).trans (hHeld.2.2.2))))))))⟩ (fun hHeld=>?_)
   clear hK K
   refine pure_ (i:=7) (N:=some 7) (v:=?_) (a':=?_) #[true,true,true,true,true,true,true,true] rfl rfl (any_of HT_.out (by kernel_rfl)) (fun _ _ _ h=>h) (Or.inl ⟨by rfl,?_⟩) ?_ ?_
   rotate_left
   ·intro w'
    go_simp
    with_reducible rfl
   rotate_left
   ·simp only [Act.put,List.setIfInBounds_toArray,List.set_cons_zero,List.set_cons_succ,i64_w,i32_w]
    rfl
   refine done_ (done_of HT_.out (by kernel_rfl)) ?_
   try go_wp2
   refine bodyPost_ret (results_ct rfl _ _ gb103 28 #[.int .i64 t118, .int .i64 t119, .int .i64 t120, .string t121] (0,0) _ rfl A6m Try.underlying28 rfl (by kernel_rfl)) rfl ?_
   exact ⟨by first|rfl|(simp [errW_none,errW_some] <;> rfl)|(simp [*,errW_none,errW_some] <;> rfl),by repeat first|(with_reducible first|exact HB.out|apply zA|apply zN|apply z1|refine zS ?_ GE101.out|refine zS ?_ GE102.out|refine zS ?_ GE103.out|refine zS ?_ GE122.out)|exact HB.out⟩
  ·have hfz62_3:=S3 BK102.out 3
   try go_wp2_with (first|((with_reducible refine gate_callee (f:=93) rfl ?_);refine goesL_ (some 29) rfl rfl Try.func93 (by kernel_rfl) rfl #[.agg #[.int .i64 a1_0, .int .i64 a1_1, .int .i64 a1_2, .string a1_3], .agg #[.int .i64 a2_0, .int .i64 a2_1, .int .i64 a2_2, .string a2_3]] rfl W4 ?_;(with_reducible refine (A1e.calls k a1_0 a1_1 a1_2 a1_3 a2_0 a2_1 a2_2 a2_3 t112 t113 t114 true _ A48.out).mono ?_);rintro e w89 ⟨rfl,hb⟩;refine ⟨_,rfl,?_⟩;replace BK101:=z_ (zk BK101.out hb);replace BK102:=z_ (zk BK102.out hb);replace BK103:=z_ (zk BK103.out hb);replace HB:=z_ (below_step zp3 hb);(try clear hb);(try clear hb2);(try clear hk);(try clear hi))|((with_reducible refine gate_callee (f:=92) rfl ?_);refine goesL_ (some 41) rfl rfl Try.func92 (by kernel_rfl) rfl #[.int .i64 a0, .int .i64 t112, .int .i64 t113] rfl W4 ?_;(with_reducible refine (Amp.calls a0 t112 t113 t116 false _ A50.out).mono ?_);rintro e w' ⟨rfl,⟨nd,rfl⟩⟩;refine ⟨_,rfl,?_⟩;(try (rw [drewN_self w89];generalize hq_:World.drewN w89 _ = w89;have n0_:Aside0 (w89.heap[gb101]? = some (.cells #[.int .i64 a1_0, .int .i64 a1_1, .int .i64 a1_2, .string a1_3] 28 (0,0))):=⟨by rw [← hq_];exact zp2⟩;have n1_:Aside0 (w89.heap[gb102]? = some (.cells #[.int .i64 a2_0, .int .i64 a2_1, .int .i64 a2_2, .string a2_3] 28 (0,0))):=⟨by rw [← hq_];exact zp7⟩;have n2_:Aside0 (w89.heap[gb103]? = some (.cells #[.int .i64 0, .int .i64 0, .int .i64 0, .string (⟨#[]⟩:ByteArray)] 28 (0,0))):=⟨by rw [← hq_];exact Aeq⟩;have n3_:Aside0 (Below w.heap.size w w89):=⟨by rw [← hq_];exact zp3⟩;clear BK101 BK102 BK103 HB hq_;have BK101:=n0_;have BK102:=n1_;have BK103:=n2_;have HB:=n3_;clear n0_ n1_ n2_ n3_));(try have hcu90_0:w89.cell? ⟨gb101,0,none⟩ = some (.int .i64 a1_0):=(Oi BK101.out 0).trans rfl);(try have hcu90_1:w89.cell? ⟨gb101,1,none⟩ = some (.int .i64 a1_1):=(Oi BK101.out 1).trans rfl);(try have hcu90_2:w89.cell? ⟨gb101,2,none⟩ = some (.int .i64 a1_2):=(Oi BK101.out 2).trans rfl);(try have hcu90_3:w89.cell? ⟨gb101,3,none⟩ = some (.string a1_3):=(Oi BK101.out 3).trans rfl);(try have hfu90_0:=S3 BK101.out 0);(try have hfu90_1:=S3 BK101.out 1);(try have hfu90_2:=S3 BK101.out 2);(try have hfu90_3:=S3 BK101.out 3);(try have hcu91_0:w89.cell? ⟨gb102,0,none⟩ = some (.int .i64 a2_0):=(Oi BK102.out 0).trans rfl);(try have hcu91_1:w89.cell? ⟨gb102,1,none⟩ = some (.int .i64 a2_1):=(Oi BK102.out 1).trans rfl);(try have hcu91_2:w89.cell? ⟨gb102,2,none⟩ = some (.int .i64 a2_2):=(Oi BK102.out 2).trans rfl);(try have hcu91_3:w89.cell? ⟨gb102,3,none⟩ = some (.string a2_3):=(Oi BK102.out 3).trans rfl);(try have hfu91_0:=S3 BK102.out 0);(try have hfu91_1:=S3 BK102.out 1);(try have hfu91_2:=S3 BK102.out 2);(try have hfu91_3:=S3 BK102.out 3);(try have hcu92_0:w89.cell? ⟨gb103,0,none⟩ = some (.int .i64 0):=(Oi BK103.out 0).trans rfl);(try have hcu92_1:w89.cell? ⟨gb103,1,none⟩ = some (.int .i64 0):=(Oi BK103.out 1).trans rfl);(try have hcu92_2:w89.cell? ⟨gb103,2,none⟩ = some (.int .i64 0):=(Oi BK103.out 2).trans rfl);(try have hcu92_3:w89.cell? ⟨gb103,3,none⟩ = some (.string (⟨#[]⟩:ByteArray)):=(Oi BK103.out 3).trans rfl);(try have hfu92_0:=S3 BK103.out 0);(try have hfu92_1:=S3 BK103.out 1);(try have hfu92_2:=S3 BK103.out 2);(try have hfu92_3:=S3 BK103.out 3))|((with_reducible refine gate_callee (f:=94) rfl ?_);refine goesL_ (some 47) rfl rfl Try.func94 (by kernel_rfl) rfl #[.agg #[.int .i64 3, .int .i64 t116, .int .i64 t114, .string (⟨#[]⟩:ByteArray)]] rfl W4 ?_;(with_reducible refine (Ad9.calls k 3 t116 t114 (⟨#[]⟩:ByteArray) t118 t119 t120 t121 _ A51.out).mono ?_);rintro e w93 ⟨rfl,hb⟩;refine ⟨_,rfl,?_⟩;replace BK101:=z_ (zk BK101.out hb);replace BK102:=z_ (zk BK102.out hb);replace BK103:=z_ (zk BK103.out hb);replace HB:=z_ (below_step zp3 hb);(try clear hb);(try clear hb2);(try clear hk);(try clear hi))|((with_reducible refine gate_dst (N:=14) rfl ?_);refine box_event (by rfl) (N:=14) (by rfl) (cs:=#[.int .i64 0, .int .i64 0, .int .i64 0, .string (⟨#[]⟩:ByteArray)]) (t:=28) W3 ?_;intro gb122 hg w94 hbox hb;have BK122:=z_ (hbox);have GW122:=z_ ((Aes:w.heap.size ≤ gb122));have GE122:=z_ ((Aes:w.heap.size ≤ gb122));replace HB:=z_ (below_step zp3 hb);have NB101_122:=z_ ((Aeh:gb101 ≠ gb122));have NB122_101:=z_ ((Aei:gb122 ≠ gb101));replace BK101:=z_ (zk BK101.out hb);have NB102_122:=z_ ((Amd:gb102 ≠ gb122));have NB122_102:=z_ ((Aet:gb122 ≠ gb102));replace BK102:=z_ (zk BK102.out hb);have NB103_122:=z_ ((A07:gb103 ≠ gb122));have NB122_103:=z_ ((A08:gb122 ≠ gb103));replace BK103:=z_ (zk BK103.out hb);clear hb hbox hg;have hnb95:=NB122_101.out;have hnc95:=NB101_122.out;have hnb96:=NB122_102.out;have hnc96:=NB102_122.out;have hnb97:=NB122_103.out;have hnc97:=NB103_122.out;obtain ⟨_,_,_,_,_,_,_,_⟩:=Rr BK122.out))
   have n0_:Aside0 (((((w94.setCell ⟨gb122,0,none⟩ (.int .i64 t118)).setCell ⟨gb122,1,none⟩ (.int .i64 t119)).setCell ⟨gb122,2,none⟩ (.int .i64 t120)).setCell ⟨gb122,3,none⟩ (.string t121)).heap[gb101]? = some (.cells #[.int .i64 a1_0, .int .i64 a1_1, .int .i64 a1_2, .string a1_3] 28 (0,0))):=⟨by (with_reducible repeat first|apply Jx|apply A7|apply K0);refine S0 ?_ NB101_122.out _;(with_reducible repeat first|apply Jx|apply A7|apply K0);refine S0 ?_ NB101_122.out _;(with_reducible repeat first|apply Jx|apply A7|apply K0);refine S0 ?_ NB101_122.out _;(with_reducible repeat first|apply Jx|apply A7|apply K0);refine S0 ?_ NB101_122.out _;(with_reducible repeat first|apply Jx|apply A7|apply K0);exact BK101.out⟩
   have n1_:Aside0 (((((w94.setCell ⟨gb122,0,none⟩ (.int .i64 t118)).setCell ⟨gb122,1,none⟩ (.int .i64 t119)).setCell ⟨gb122,2,none⟩ (.int .i64 t120)).setCell ⟨gb122,3,none⟩ (.string t121)).heap[gb102]? = some (.cells #[.int .i64 a2_0, .int .i64 a2_1, .int .i64 a2_2, .string a2_3] 28 (0,0))):=⟨by (with_reducible repeat first|apply Jx|apply A7|apply K0);refine S0 ?_ NB102_122.out _;(with_reducible repeat first|apply Jx|apply A7|apply K0);refine S0 ?_ NB102_122.out _;(with_reducible repeat first|apply Jx|apply A7|apply K0);refine S0 ?_ NB102_122.out _;(with_reducible repeat first|apply Jx|apply A7|apply K0);refine S0 ?_ NB102_122.out _;(with_reducible repeat first|apply Jx|apply A7|apply K0);exact BK102.out⟩
   have n2_:Aside0 (((((w94.setCell ⟨gb122,0,none⟩ (.int .i64 t118)).setCell ⟨gb122,1,none⟩ (.int .i64 t119)).setCell ⟨gb122,2,none⟩ (.int .i64 t120)).setCell ⟨gb122,3,none⟩ (.string t121)).heap[gb103]? = some (.cells #[.int .i64 0, .int .i64 0, .int .i64 0, .string (⟨#[]⟩:ByteArray)] 28 (0,0))):=⟨by (with_reducible repeat first|apply Jx|apply A7|apply K0);refine S0 ?_ NB103_122.out _;(with_reducible repeat first|apply Jx|apply A7|apply K0);refine S0 ?_ NB103_122.out _;(with_reducible repeat first|apply Jx|apply A7|apply K0);refine S0 ?_ NB103_122.out _;(with_reducible repeat first|apply Jx|apply A7|apply K0);refine S0 ?_ NB103_122.out _;(with_reducible repeat first|apply Jx|apply A7|apply K0);exact BK103.out⟩
   have n3_:Aside0 (((((w94.setCell ⟨gb122,0,none⟩ (.int .i64 t118)).setCell ⟨gb122,1,none⟩ (.int .i64 t119)).setCell ⟨gb122,2,none⟩ (.int .i64 t120)).setCell ⟨gb122,3,none⟩ (.string t121)).heap[gb122]? = some (.cells #[.int .i64 t118, .int .i64 t119, .int .i64 t120, .string t121] 28 (0,0))):=⟨by (with_reducible repeat first|apply Jx|apply A7|apply K0);refine Tt (cs:=#[.int .i64 t118, .int .i64 t119, .int .i64 t120, .string (⟨#[]⟩:ByteArray)]) ?_ 3 _ rfl;(with_reducible repeat first|apply Jx|apply A7|apply K0);refine Tt (cs:=#[.int .i64 t118, .int .i64 t119, .int .i64 0, .string (⟨#[]⟩:ByteArray)]) ?_ 2 _ rfl;(with_reducible repeat first|apply Jx|apply A7|apply K0);refine Tt (cs:=#[.int .i64 t118, .int .i64 0, .int .i64 0, .string (⟨#[]⟩:ByteArray)]) ?_ 1 _ rfl;(with_reducible repeat first|apply Jx|apply A7|apply K0);refine Tt (cs:=#[.int .i64 0, .int .i64 0, .int .i64 0, .string (⟨#[]⟩:ByteArray)]) ?_ 0 _ rfl;(with_reducible repeat first|apply Jx|apply A7|apply K0);exact BK122.out⟩
   have n4_:Aside0 (Below w.heap.size w ((((w94.setCell ⟨gb122,0,none⟩ (.int .i64 t118)).setCell ⟨gb122,1,none⟩ (.int .i64 t119)).setCell ⟨gb122,2,none⟩ (.int .i64 t120)).setCell ⟨gb122,3,none⟩ (.string t121))):=⟨by repeat first|(with_reducible first|exact HB.out|apply zA|apply zN|apply z1|refine zS ?_ GE101.out|refine zS ?_ GE102.out|refine zS ?_ GE103.out|refine zS ?_ GE122.out)|exact HB.out⟩
   (try clear BK101)
   (try clear BK102)
   (try clear BK103)
   (try clear BK122)
   (try clear HB)
   generalize ((((w94.setCell ⟨gb122,0,none⟩ (.int .i64 t118)).setCell ⟨gb122,1,none⟩ (.int .i64 t119)).setCell ⟨gb122,2,none⟩ (.int .i64 t120)).setCell ⟨gb122,3,none⟩ (.string t121)) = w99 at n0_ n1_ n2_ n3_ n4_ ⊢
   have BK101:=n0_
   have BK102:=n1_
   have BK103:=n2_
   have BK122:=n3_
   have HB:=n4_
   clear n0_ n1_ n2_ n3_ n4_
   have n0_:=z_ (A7 BK101.out)
   have n1_:=z_ (A7 BK102.out)
   have n2_:=z_ (A7 BK103.out)
   have n3_:=z_ (A7 BK122.out)
   have n4_:=z_ (z1 HB.out)
   clear BK101
   clear BK102
   clear BK103
   clear BK122
   clear HB
   have BK101:=n0_
   have BK102:=n1_
   have BK103:=n2_
   have BK122:=n3_
   have HB:=n4_
   clear n0_ n1_ n2_ n3_ n4_
   refine start_ (n:=8) (S:=fun w'=>w'.cell? ⟨gb122,0,none⟩ = some (.int .i64 t118) ∧ w'.cell? ⟨gb122,1,none⟩ = some (.int .i64 t119) ∧ w'.cell? ⟨gb122,2,none⟩ = some (.int .i64 t120) ∧ w'.cell? ⟨gb122,3,none⟩ = some (.string t121)) (ds:=[]) #[false,false,false,false,false,false,false,false] (by kernel_rfl) rfl rfl ⟨(Oi BK122.out 0).trans rfl,(Oi BK122.out 1).trans rfl,(Oi BK122.out 2).trans rfl,(Oi BK122.out 3).trans rfl⟩ (fun hHeld=>?_);refine with_tabW Aec.tab9 Aec.bits9 (fun HT_ HW_=>?_)
   generalize w99.drew = w100 at BK101 BK102 BK103 BK122 HB hHeld ⊢
   refine pure_ (i:=1) (N:=some 49) (v:=?_) (a':=?_) #[false,true,false,false,false,false,false,false] rfl rfl (any_of HT_.out (by kernel_rfl)) (fun _ _ _ h=>h) (Or.inl ⟨by rfl,?_⟩) ?_ ?_
   rotate_left
   ·intro w'
    go_simp
    with_reducible rfl
   rotate_left
   ·simp only [Act.put,List.setIfInBounds_toArray,List.set_cons_zero,List.set_cons_succ,i64_w,i32_w]
    rfl
   refine pure_ (i:=2) (N:=some 50) (v:=?_) (a':=?_) #[false,true,true,false,false,false,false,false] rfl rfl (any_of HT_.out (by kernel_rfl)) (fun _ _ _ h=>h) (Or.inl ⟨by rfl,?_⟩) ?_ ?_
   rotate_left
   ·intro w'
    go_simp
    with_reducible rfl
   rotate_left
   ·simp only [Act.put,List.setIfInBounds_toArray,List.set_cons_zero,List.set_cons_succ,i64_w,i32_w]
    rfl
   refine pure_ (i:=3) (N:=some 51) (v:=undef) (a':=?_) #[false,true,true,true,false,false,false,false] rfl rfl (any_of HT_.out (by kernel_rfl)) (fun _ _ _ h=>h) (Or.inr ⟨by rfl,rfl⟩) ?_ ?_
   rotate_left
   ·simp only [Act.put,List.setIfInBounds_toArray,List.set_cons_zero,List.set_cons_succ,i64_w,i32_w]
    rfl
   refine pure_ (i:=4) (N:=some 52) (v:=undef) (a':=?_) #[false,true,true,true,true,false,false,false] rfl rfl (any_of HT_.out (by kernel_rfl)) (fun _ _ _ h=>h) (Or.inr ⟨by rfl,rfl⟩) ?_ ?_
   rotate_left
   ·simp only [Act.put,List.setIfInBounds_toArray,List.set_cons_zero,List.set_cons_succ,i64_w,i32_w]
    rfl
   refine pure_ (i:=5) (N:=some 53) (v:=?_) (a':=?_) #[false,true,true,true,true,true,false,false] rfl rfl (any_of HT_.out (by kernel_rfl)) (fun _ _ _ h=>h) (Or.inl ⟨by rfl,?_⟩) ?_ ?_
   rotate_left
   ·intro w'
    go_simp
    with_reducible rfl
   rotate_left
   ·simp only [Act.put,List.setIfInBounds_toArray,List.set_cons_zero,List.set_cons_succ,i64_w,i32_w]
    rfl
   refine take_ (i:=0) (N:=some 48) (v:=?_) (a':=?_) #[true,true,true,true,true,true,false,false] rfl rfl (take_ofW HT_.out HW_.out (by kernel_rfl)) (fun _ _ _ h=>h) (Or.inl ⟨by rfl,?_⟩) hHeld ?_ ?_
   rotate_left
   ·rintro w' ⟨s0,s1,s2,s3⟩
    go_simp
    with_reducible rfl
   rotate_left
   ·simp only [Act.put,List.setIfInBounds_toArray,List.set_cons_zero,List.set_cons_succ,i64_w,i32_w]
    rfl
   refine one_ (i:=6) (N:=none) #[true,true,true,true,true,true,true,false] rfl rfl (one_of HT_.out (by kernel_rfl)) (by decide) (fun K hK=>?_)
   have hs101:w100.cell? ⟨gb103,0,none⟩ = some (.int .i64 0):=(Oi BK103.out 0).trans rfl
   have hfs101:=S3 BK103.out 0
   have hns101_0:=NB101_103.out
   have hns101_1:=NB102_103.out
   have hns101_3:=NB122_103.out
   have hms101_0:=NB103_101.out
   have hms101_1:=NB103_102.out
   have hms101_3:=NB103_122.out
   have hs102:w100.cell? ⟨gb103,1,none⟩ = some (.int .i64 0):=(Oi BK103.out 1).trans rfl
   have hfs102:=S3 BK103.out 1
   have hns102_0:=NB101_103.out
   have hns102_1:=NB102_103.out
   have hns102_3:=NB122_103.out
   have hms102_0:=NB103_101.out
   have hms102_1:=NB103_102.out
   have hms102_3:=NB103_122.out
   have hs103:w100.cell? ⟨gb103,2,none⟩ = some (.int .i64 0):=(Oi BK103.out 2).trans rfl
   have hfs103:=S3 BK103.out 2
   have hns103_0:=NB101_103.out
   have hns103_1:=NB102_103.out
   have hns103_3:=NB122_103.out
   have hms103_0:=NB103_101.out
   have hms103_1:=NB103_102.out
   have hms103_3:=NB103_122.out
   have hs104:w100.cell? ⟨gb103,3,none⟩ = some (.string (⟨#[]⟩:ByteArray)):=(Oi BK103.out 3).trans rfl
   have hfs104:=S3 BK103.out 3
   have hns104_0:=NB101_103.out
   have hns104_1:=NB102_103.out
   have hns104_3:=NB122_103.out
   have hms104_0:=NB103_101.out
   have hms104_1:=NB103_102.out
   have hms104_3:=NB103_122.out
   refine skip_ (w1:=?_) (by rfl) rfl ?_ ?_
   rotate_left
   ·go_simp
    rfl
   refine hK.out _ _ ⟨((cell_far (p:=⟨gb103,_,none⟩) NB122_103.out _).trans (((cell_far (p:=⟨gb103,_,none⟩) NB122_103.out _).trans (((cell_far (p:=⟨gb103,_,none⟩) NB122_103.out _).trans (((cell_far (p:=⟨gb103,_,none⟩) NB122_103.out _).trans (hHeld.1)))))))),((cell_far (p:=⟨gb103,_,none⟩) NB122_103.out _).trans (((cell_far (p:=⟨gb103,_,none⟩) NB122_103.out _).trans (((cell_far (p:=⟨gb103,_,none⟩) NB122_103.out _).trans (((cell_far (p:=⟨gb103,_,none⟩) NB122_103.out _).trans (hHeld.2.1)))))))),((cell_far (p:=⟨gb103,_,none⟩) NB122_103.out _).trans (((cell_far (p:=⟨gb103,_,none⟩) NB122_103.out _).trans (((cell_far (p:=⟨gb103,_,none⟩) NB122_103.out _).trans (((cell_far (p:=⟨gb103,_,none⟩) NB122_103.out _).trans (hHeld.2.2.1)))))))),((cell_far (p:=⟨gb103,_,none⟩) NB122_103.out _).trans (((cell_far (p:=⟨gb103,_,none⟩) NB122_103.out _).trans (((cell_far (p:=⟨gb103,_,none⟩) NB122_103.out _).trans (((cell_far (p:=⟨gb103,_,none⟩) NB122_103.out _).trans (hHeld.2.2.2))))))))⟩ (fun hHeld=>?_)
   clear hK K
   refine pure_ (i:=7) (N:=some 7) (v:=?_) (a':=?_) #[true,true,true,true,true,true,true,true] rfl rfl (any_of HT_.out (by kernel_rfl)) (fun _ _ _ h=>h) (Or.inl ⟨by rfl,?_⟩) ?_ ?_
   rotate_left
   ·intro w'
    go_simp
    with_reducible rfl
   rotate_left
   ·simp only [Act.put,List.setIfInBounds_toArray,List.set_cons_zero,List.set_cons_succ,i64_w,i32_w]
    rfl
   refine done_ (done_of HT_.out (by kernel_rfl)) ?_
   try go_wp2
   refine bodyPost_ret (results_ct rfl _ _ gb103 28 #[.int .i64 t118, .int .i64 t119, .int .i64 t120, .string t121] (0,0) _ rfl A6m Try.underlying28 rfl (by kernel_rfl)) rfl ?_
   exact ⟨by first|rfl|(simp [errW_none,errW_some] <;> rfl)|(simp [*,errW_none,errW_some] <;> rfl),by repeat first|(with_reducible first|exact HB.out|apply zA|apply zN|apply z1|refine zS ?_ GE101.out|refine zS ?_ GE102.out|refine zS ?_ GE103.out|refine zS ?_ GE122.out)|exact HB.out⟩
  ·have hfz62_3:=S3 BK102.out 3
   try go_wp2_with (first|((with_reducible refine gate_callee (f:=93) rfl ?_);refine goesL_ (some 29) rfl rfl Try.func93 (by kernel_rfl) rfl #[.agg #[.int .i64 a1_0, .int .i64 a1_1, .int .i64 a1_2, .string a1_3], .agg #[.int .i64 a2_0, .int .i64 a2_1, .int .i64 a2_2, .string a2_3]] rfl W4 ?_;(with_reducible refine (A1e.calls k a1_0 a1_1 a1_2 a1_3 a2_0 a2_1 a2_2 a2_3 t112 t113 t114 false _ A48.out).mono ?_);rintro e w114 ⟨rfl,hb⟩;refine ⟨_,rfl,?_⟩;replace BK101:=z_ (zk BK101.out hb);replace BK102:=z_ (zk BK102.out hb);replace BK103:=z_ (zk BK103.out hb);replace HB:=z_ (below_step zp3 hb);(try clear hb);(try clear hb2);(try clear hk);(try clear hi);obtain ⟨_,_,_,_,_,_,_,_⟩:=Rr BK103.out))
   refine bodyPost_ret (results_ct rfl _ _ gb103 28 #[.int .i64 0, .int .i64 0, .int .i64 0, .string (⟨#[]⟩:ByteArray)] (0,0) _ rfl zp6 Try.underlying28 rfl (by kernel_rfl)) rfl ?_
   exact ⟨by first|rfl|(simp [errW_none,errW_some] <;> rfl)|(simp [*,errW_none,errW_some] <;> rfl),by repeat first|(with_reducible first|exact HB.out|apply zA|apply zN|apply z1|refine zS ?_ GE101.out|refine zS ?_ GE102.out|refine zS ?_ GE103.out)|exact HB.out⟩
end Go.Proofs.Ytglffgneikoeaaa.M
