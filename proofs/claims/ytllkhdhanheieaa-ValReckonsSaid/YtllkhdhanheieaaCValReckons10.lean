-- Written by drive.py and pack.py (programs of this proof's own) through the kit's printer; not trusted: Lean checks it.
import Derived.Test.YtllkhdhanheieaaCValReckons1
import Derived.Test.YtllkhdhanheieaaCValReckons9
import Derived.Test.YtllkhdhanheieaaCValReckons7
namespace Go.Proofs.Ytllkhdhanheieaa.R
open Go.RowKit Go.Proofs.YtllkhdhanheieaaW.PrintWords Go.Proofs.YtllkhdhanheieaaW.PrintLast Go.Proofs.YtllkhdhanheieaaW.PrintMore
attribute [local go_sem] max2_int min2_int max_two min_two max_three min_three max_four min_four
attribute [local go_sem high] own_gtr own_leq own_geq own_cell_set Option.map_some fld23_1
set_option linter.unusedVariables false
set_option linter.unusedSimpArgs false
mutual
def federationref1_fine.l0:Nat → Int → Int → Option (Int × Int × Int × ByteArray × Int)
 | 0,_,_=>none
 | k + 1,x0,x1=>if x1 < 0 then ((federationref1_Ten.f k 6).bind fun t102=>(federationref1_fine.l0 k (wrap64 (x0 - 1)) (wrap64 (x1 + t102)))) else (federationref1_fine.l1 k x0 x1)
def federationref1_fine.l1:Nat → Int → Int → Option (Int × Int × Int × ByteArray × Int)
 | 0,_,_=>none
 | k + 1,x0,x1=>(federationref1_Ten.f k 6).bind fun t103=>(if x1 ≥ t103 then ((federationref1_Ten.f k 6).bind fun t104=>(federationref1_fine.l1 k (wrap64 (x0 + 1)) (wrap64 (x1 - t104)))) else (federationref1_fine.l2 k x0 x1 6))
def federationref1_fine.j3:Nat → Int → Int → Int → Option (Int × Int × Int × ByteArray × Int)
 | 0,_,_,_=>none
 | k + 1,x0,x1,x6=>if x0 ≤ (-1000000000000000) then (federationref1_fine.j4 k x0 x1 x6 true) else (if x0 ≥ 1000000000000000 then (federationref1_fine.j4 k x0 x1 x6 true) else ((federationref1_Ten.f k x6).bind fun t105=>(if t105 = 0 then (none) else (if x0 > (wrap64 (Int.tdiv (1000000000000000:Int) t105)) then (federationref1_fine.j4 k x0 x1 x6 true) else ((federationref1_Ten.f k x6).bind fun t106=>(if t106 = 0 then (none) else (federationref1_fine.j4 k x0 x1 x6 (decide (x0 < (wrap64 ((wrap64 (-(wrap64 (Int.tdiv (1000000000000000:Int) t106)))) - 1)))))))))))
def federationref1_fine.j4:Nat → Int → Int → Int → Bool → Option (Int × Int × Int × ByteArray × Int)
 | 0,_,_,_,_=>none
 | k + 1,x0,x1,x6,x55=>if x55 = true then (some (0,0,0,(⟨#[]⟩:ByteArray),10)) else ((federationref1_Ten.f k x6).bind fun t107=>((federationref1_Norm.f k 3 (wrap64 ((wrap64 (x0 * t107)) + x1)) x6 (⟨#[]⟩:ByteArray)).bind fun bt108=>((federationref1_Right.f k bt108.1 bt108.2.1 bt108.2.2.1 bt108.2.2.2).bind fun t113=>(if t113 = true then (some (bt108.1,bt108.2.1,bt108.2.2.1,bt108.2.2.2,0)) else (some (0,0,0,(⟨#[]⟩:ByteArray),10))))))
def federationref1_fine.l2:Nat → Int → Int → Int → Option (Int × Int × Int × ByteArray × Int)
 | 0,_,_,_=>none
 | k + 1,x0,x1,x6=>if x6 > 0 then (if (Int.tmod x1 10) = 0 then (federationref1_fine.l2 k x0 (wrap64 (Int.tdiv x1 10)) (wrap64 (x6 - 1))) else (federationref1_fine.j3 k x0 x1 x6)) else (federationref1_fine.j3 k x0 x1 x6)
end
def federationref1_fine.f (k:Nat) (a0:Int) (a1:Int):Option (Int × Int × Int × ByteArray × Int):=federationref1_fine.l0 k a0 a1
set_option maxHeartbeats 8000000 in
set_option maxRecDepth 100000 in
theorem federationref1_fine.calls (k:Nat) (a0:Int) (a1:Int) (r1:Int) (r2:Int) (r3:Int) (r4:ByteArray) (r5:Int) (w:World) (h:federationref1_fine.f k a0 a1 = some (r1,r2,r3,r4,r5)) :
  Calls Try.prog 53 #[.int .i64 a0, .int .i64 a1] w fun e w'=>e = .returned (.tuple #[.agg #[.int .i64 r1, .int .i64 r2, .int .i64 r3, .string r4], .int .i64 r5]) ∧ Below w.heap.size w w':=by
 have hu23:=Try.underlying23
 have HB:=z_ (Below.refl w.heap.size w)
 have H:(federationref1_fine.l0 k a0 a1) = some (r1,r2,r3,r4,r5):=h
 clear h
 have H':=z_ H
 clear H
 go_enter Try.func53,Try.ntmps53
 go_wp2_with (first|((with_reducible refine gate_dst (N:=4) rfl ?_);refine box_event ?hg (N:=4) ?hd (cs:=#[.int .i64 0, .int .i64 0, .int .i64 0, .string (⟨#[]⟩:ByteArray)]) (t:=23) ?hr ?_;(case hd=>rfl);(case hg=>rfl);(case hr=>first|(go_simp;done)|(go_simp;rfl));intro gb101 hg w3 hbox hb;have n0_:=z_ (below_step (by repeat first|(with_reducible first|exact HB.out|apply zA|apply zN|apply z1)|exact HB.out) hb);have n1_:=z_ (hbox);have n2_:=z_ ((by rw [hg];exact (zBs (by repeat first|(with_reducible first|exact HB.out|apply zA|apply zN|apply z1)|exact HB.out)):w.heap.size ≤ gb101));have n3_:=z_ ((by rw [hg];exact (zBs (by repeat first|(with_reducible first|exact HB.out|apply zA|apply zN|apply z1)|exact HB.out)):w.heap.size ≤ gb101));clear HB;have HB:=n0_;have BK101:=n1_;have GW101:=n2_;have GE101:=n3_;clear n0_ n1_ n2_ n3_;clear hb hbox hg))
 go_loopg [0,1] k (fun kq v0 v1 w'=>∃ (x0_1:Int) (x1_1:Int),v0 = .int .i64 x0_1 ∧ v1 = .int .i64 x1_1 ∧ Aside0 (federationref1_fine.l0 kq x0_1 x1_1 = some (r1,r2,r3,r4,r5)) ∧ Aside0 (kq ≤ k) ∧ Aside0 (w'.heap[gb101]? = some (.cells #[.int .i64 0, .int .i64 0, .int .i64 0, .string (⟨#[]⟩:ByteArray)] 23 (0,0))) ∧ Aside0 (Below w.heap.size w w'))
 case atStart=>exact ⟨(a0),(a1),(by first|rfl|(simp;done)|(simp [*];done)),(by first|rfl|(simp;done)|(simp [*];done)),H',⟨Nat.le_refl _⟩,⟨by (with_reducible repeat first|apply zbN|apply zb1|apply zbA);exact BK101.out⟩,⟨by repeat first|(with_reducible first|exact HB.out|apply zA|apply zN|apply z1|refine zS ?_ GE101.out)|exact HB.out⟩⟩
 case round =>
  clear H'
  try clear p2
  obtain ⟨x0_1,x1_1,rfl,rfl,HA,HK1,BK101,HB⟩:=hrel
  cases gk with
  | zero=>exact absurd HA.out (by simp [federationref1_fine.l0])
  | succ k1 =>
   have H:=HA.out
   clear HA
   simp only [federationref1_fine.l0] at H
   by_cases c4:x1_1 < 0
   ·rw [if_pos c4] at H
    have c4b0:decide (x1_1 < 0) = true:=decide_eq_true c4
    clear c4
    replace H:=Option.bind_eq_some_iff.mp H
    obtain ⟨t102,A50,H⟩:=H
    replace H:(federationref1_fine.l0 k1 (wrap64 (x0_1 - 1)) (wrap64 (x1_1 + t102))) = some (r1,r2,r3,r4,r5):=H
    have A5:=z_ A50
    clear A50
    have H':=z_ H
    clear H
    go_wp2_with (first|((with_reducible refine gate_callee (f:=57) rfl ?_);refine goesL_ (some 13) rfl rfl Try.func57 (by kernel_rfl) rfl #[.int .i64 6] rfl (by (try simp only [List.map_toArray,List.map_cons,List.map_nil]);first|done|rfl|(simp only [List.length_drop,List.length_take];rfl)) ?_;(with_reducible refine (federationref1_Ten.calls k1 6 t102 _ A5.out).mono ?_);rintro e w' ⟨rfl,⟨nd,rfl⟩⟩;refine ⟨_,rfl,?_⟩))
    go_roundg k1
    case measure=>have:=HK1.out;omega
    case rel=>exact ⟨(wrap64 (x0_1 - 1)),(wrap64 (x1_1 + t102)),(by first|rfl|(simp;done)|(simp [*];done)),(by first|rfl|(simp;done)|(simp [*];done)),H',⟨by have:=HK1.out;omega⟩,⟨by (with_reducible repeat first|apply zbN|apply zb1|apply zbA);exact BK101.out⟩,⟨by repeat first|(with_reducible first|exact HB.out|apply zA|apply zN|apply z1|refine zS ?_ GE101.out)|exact HB.out⟩⟩
   ·rw [if_neg c4] at H
    have c4b0:decide (x1_1 < 0) = false:=decide_eq_false c4
    clear c4
    have H':=z_ H
    clear H
    go_wp2
    go_loopg [0,1] k1 (fun kq v0 v1 w'=>∃ (x0_2:Int) (x1_2:Int),v0 = .int .i64 x0_2 ∧ v1 = .int .i64 x1_2 ∧ Aside0 (federationref1_fine.l1 kq x0_2 x1_2 = some (r1,r2,r3,r4,r5)) ∧ Aside0 (kq ≤ k1) ∧ Aside0 (w'.heap[gb101]? = some (.cells #[.int .i64 0, .int .i64 0, .int .i64 0, .string (⟨#[]⟩:ByteArray)] 23 (0,0))) ∧ Aside0 (Below w.heap.size w w'))
    case atStart=>exact ⟨(x0_1),(x1_1),(by first|rfl|(simp;done)|(simp [*];done)),(by first|rfl|(simp;done)|(simp [*];done)),H',⟨Nat.le_refl _⟩,⟨by (with_reducible repeat first|apply zbN|apply zb1|apply zbA);exact BK101.out⟩,⟨by repeat first|(with_reducible first|exact HB.out|apply zA|apply zN|apply z1|refine zS ?_ GE101.out)|exact HB.out⟩⟩
    case round =>
     clear H'
     try clear p2
     try clear c4
     try clear c4b0
     try clear c5
     try clear p2
     obtain ⟨x0_2,x1_2,rfl,rfl,HA,HK2,BK101,HB⟩:=hrel
     cases gk with
     | zero=>exact absurd HA.out (by simp [federationref1_fine.l1])
     | succ k2 =>
      have H:=HA.out
      clear HA
      simp only [federationref1_fine.l1] at H
      replace H:=Option.bind_eq_some_iff.mp H
      obtain ⟨t103,A60,H⟩:=H
      replace H:(if x1_2 ≥ t103 then ((federationref1_Ten.f k2 6).bind fun t104=>(federationref1_fine.l1 k2 (wrap64 (x0_2 + 1)) (wrap64 (x1_2 - t104)))) else (federationref1_fine.l2 k2 x0_2 x1_2 6)) = some (r1,r2,r3,r4,r5):=H
      have A6:=z_ A60
      clear A60
      by_cases c7:x1_2 ≥ t103
      ·rw [if_pos c7] at H
       have c7b0:decide (t103 ≤ x1_2) = true:=decide_eq_true c7
       clear c7
       replace H:=Option.bind_eq_some_iff.mp H
       obtain ⟨t104,A80,H⟩:=H
       replace H:(federationref1_fine.l1 k2 (wrap64 (x0_2 + 1)) (wrap64 (x1_2 - t104))) = some (r1,r2,r3,r4,r5):=H
       have A8:=z_ A80
       clear A80
       have H':=z_ H
       clear H
       go_wp2_with (first|((with_reducible refine gate_callee (f:=57) rfl ?_);refine goesL_ (some 16) rfl rfl Try.func57 (by kernel_rfl) rfl #[.int .i64 6] rfl (by (try simp only [List.map_toArray,List.map_cons,List.map_nil]);first|done|rfl|(simp only [List.length_drop,List.length_take];rfl)) ?_;(with_reducible refine (federationref1_Ten.calls k2 6 t103 _ A6.out).mono ?_);rintro e w' ⟨rfl,⟨nd,rfl⟩⟩;refine ⟨_,rfl,?_⟩)|((with_reducible refine gate_callee (f:=57) rfl ?_);refine goesL_ (some 21) rfl rfl Try.func57 (by kernel_rfl) rfl #[.int .i64 6] rfl (by (try simp only [List.map_toArray,List.map_cons,List.map_nil]);first|done|rfl|(simp only [List.length_drop,List.length_take];rfl)) ?_;(with_reducible refine (federationref1_Ten.calls k2 6 t104 _ A8.out).mono ?_);rintro e w' ⟨rfl,⟨nd,rfl⟩⟩;refine ⟨_,rfl,?_⟩))
       go_roundg k2
       case measure=>have:=HK1.out;have:=HK2.out;omega
       case rel=>exact ⟨(wrap64 (x0_2 + 1)),(wrap64 (x1_2 - t104)),(by first|rfl|(simp;done)|(simp [*];done)),(by first|rfl|(simp;done)|(simp [*];done)),H',⟨by have:=HK1.out;have:=HK2.out;omega⟩,⟨by (with_reducible repeat first|apply zbN|apply zb1|apply zbA);exact BK101.out⟩,⟨by repeat first|(with_reducible first|exact HB.out|apply zA|apply zN|apply z1|refine zS ?_ GE101.out)|exact HB.out⟩⟩
      ·rw [if_neg c7] at H
       have c7b0:decide (t103 ≤ x1_2) = false:=decide_eq_false c7
       clear c7
       have HC9:=z_ H
       clear H
       go_upto_block 4 with (first|((with_reducible refine gate_callee (f:=57) rfl ?_);refine goesL_ (some 16) rfl rfl Try.func57 (by kernel_rfl) rfl #[.int .i64 6] rfl (by (try simp only [List.map_toArray,List.map_cons,List.map_nil]);first|done|rfl|(simp only [List.length_drop,List.length_take];rfl)) ?_;(with_reducible refine (federationref1_Ten.calls k2 6 t103 _ A6.out).mono ?_);rintro e w' ⟨rfl,⟨nd,rfl⟩⟩;refine ⟨_,rfl,?_⟩))
       (try simp only [Act.put,List.setIfInBounds_toArray,List.set_cons_zero,List.set_cons_succ])
       go_cut [1,6] (fun v1 v6 wc=>∃ (kq:Nat) (x1_8:Int) (x6_8:Int),v1 = .int .i64 x1_8 ∧ v6 = .int .i64 x6_8 ∧ Aside0 (federationref1_fine.j3 kq x0_2 x1_8 x6_8 = some (r1,r2,r3,r4,r5)) ∧ Aside0 (kq ≤ k2) ∧ Aside0 (wc.heap[gb101]? = some (.cells #[.int .i64 0, .int .i64 0, .int .i64 0, .string (⟨#[]⟩:ByteArray)] 23 (0,0))) ∧ Aside0 (Below w.heap.size w wc))
       case first =>
        have H:=HC9.out
        clear HC9
        have H':=z_ H
        clear H
        go_wp2
        go_loopg [1,6] k2 (fun kq v1 v6 w'=>∃ (x1_3:Int) (x6_3:Int),v1 = .int .i64 x1_3 ∧ v6 = .int .i64 x6_3 ∧ Aside0 (federationref1_fine.l2 kq x0_2 x1_3 x6_3 = some (r1,r2,r3,r4,r5)) ∧ Aside0 (kq ≤ k2) ∧ Aside0 (w'.heap[gb101]? = some (.cells #[.int .i64 0, .int .i64 0, .int .i64 0, .string (⟨#[]⟩:ByteArray)] 23 (0,0))) ∧ Aside0 (Below w.heap.size w w'))
        case atStart=>exact ⟨(x1_2),(6),(by first|rfl|(simp;done)|(simp [*];done)),(by first|rfl|(simp;done)|(simp [*];done)),H',⟨Nat.le_refl _⟩,⟨by (with_reducible repeat first|apply zbN|apply zb1|apply zbA);exact BK101.out⟩,⟨by repeat first|(with_reducible first|exact HB.out|apply zA|apply zN|apply z1|refine zS ?_ GE101.out)|exact HB.out⟩⟩
        case round =>
         clear H'
         try clear p2
         try clear c4
         try clear c4b0
         try clear c5
         try clear p6
         try clear c7
         try clear c7b0
         try clear p2
         obtain ⟨x1_3,x6_3,rfl,rfl,HA,HK3,BK101,HB⟩:=hrel
         cases gk with
         | zero=>exact absurd HA.out (by simp [federationref1_fine.l2])
         | succ k3 =>
          have H:=HA.out
          clear HA
          simp only [federationref1_fine.l2] at H
          by_cases c10:x6_3 > 0
          ·rw [if_pos c10] at H
           have c10b0:decide (0 < x6_3) = true:=decide_eq_true c10
           clear c10
           (first|rw [c10b0]|(simp only [i64_w,i32_w];rw [c10b0])|skip)
           by_cases c11:(Int.tmod x1_3 10) = 0
           ·rw [if_pos c11] at H
            have c11b0:((Int.tmod x1_3 10) == 0) = true:=beq_iff_eq.mpr c11
            have c11b1:((Int.tmod x1_3 10) != 0) = false:=bne_eq_false_iff_eq.mpr c11
            clear c11
            have H':=z_ H
            clear H
            go_wp2
            go_roundg k3
            case measure=>have:=HK1.out;have:=HK2.out;have:=HK3.out;omega
            case rel=>exact ⟨(wrap64 (Int.tdiv x1_3 10)),(wrap64 (x6_3 - 1)),(by first|rfl|(simp;done)|(simp [*];done)),(by first|rfl|(simp;done)|(simp [*];done)),H',⟨by have:=HK1.out;have:=HK2.out;have:=HK3.out;omega⟩,⟨by (with_reducible repeat first|apply zbN|apply zb1|apply zbA);exact BK101.out⟩,⟨by repeat first|(with_reducible first|exact HB.out|apply zA|apply zN|apply z1|refine zS ?_ GE101.out)|exact HB.out⟩⟩
           ·rw [if_neg c11] at H
            have c11b0:((Int.tmod x1_3 10) == 0) = false:=beq_eq_false_iff_ne.mpr c11
            have c11b1:((Int.tmod x1_3 10) != 0) = true:=bne_iff_ne.mpr c11
            have H':=z_ H
            clear H
            go_wp2
            go_meet
            case rel=>exact ⟨_,(x1_3),(x6_3),(by first|rfl|(simp;done)|(simp [*];done)),(by first|rfl|(simp;done)|(simp [*];done)),H',⟨by have:=HK1.out;have:=HK2.out;have:=HK3.out;first|omega|exact Nat.le_refl _⟩,⟨by (with_reducible repeat first|apply zbN|apply zb1|apply zbA);exact BK101.out⟩,⟨by repeat first|(with_reducible first|exact HB.out|apply zA|apply zN|apply z1|refine zS ?_ GE101.out)|exact HB.out⟩⟩
          ·rw [if_neg c10] at H
           have c10b0:decide (0 < x6_3) = false:=decide_eq_false c10
           clear c10
           (first|rw [c10b0]|(simp only [i64_w,i32_w];rw [c10b0])|skip)
           have H':=z_ H
           clear H
           go_wp2
           go_meet
           case rel=>exact ⟨_,(x1_3),(x6_3),(by first|rfl|(simp;done)|(simp [*];done)),(by first|rfl|(simp;done)|(simp [*];done)),H',⟨by have:=HK1.out;have:=HK2.out;have:=HK3.out;first|omega|exact Nat.le_refl _⟩,⟨by (with_reducible repeat first|apply zbN|apply zb1|apply zbA);exact BK101.out⟩,⟨by repeat first|(with_reducible first|exact HB.out|apply zA|apply zN|apply z1|refine zS ?_ GE101.out)|exact HB.out⟩⟩
       case rest =>
        clear HC9
        try clear c1
        try clear p2
        try clear c4
        try clear c4b0
        try clear c5
        try clear p6
        try clear c7
        try clear c7b0
        try clear c10
        try clear c10b0
        try clear c11
        try clear c11b0
        try clear c11b1
        try clear p2
        try clear p6
        obtain ⟨kq,x1_8,x6_8,rfl,rfl,HA,HJ8,BK101,HB⟩:=hcut
        cases kq with
        | zero=>exact absurd HA.out (by simp [federationref1_fine.j3])
        | succ kj8 =>
         have H:=HA.out
         clear HA
         simp only [federationref1_fine.j3] at H
         have HC12:=z_ H
         clear H
         go_upto_region 8 with (fail)
         go_cut [55] (fun v55 wc=>∃ (kq:Nat) (x55_11:Bool),v55 = .bool x55_11 ∧ Aside0 (federationref1_fine.j4 kq x0_2 x1_8 x6_8 x55_11 = some (r1,r2,r3,r4,r5)) ∧ Aside0 (kq ≤ kj8) ∧ Aside0 (wc.heap[gb101]? = some (.cells #[.int .i64 0, .int .i64 0, .int .i64 0, .string (⟨#[]⟩:ByteArray)] 23 (0,0))) ∧ Aside0 (Below w.heap.size w wc))
         case first =>
          have H:=HC12.out
          clear HC12
          by_cases c13:x0_2 ≤ (-1000000000000000)
          ·rw [if_pos c13] at H
           have c13b0:decide (x0_2 ≤ (-1000000000000000)) = true:=decide_eq_true c13
           clear c13
           (first|rw [c13b0]|(simp only [i64_w,i32_w];rw [c13b0])|skip)
           have H':=z_ H
           clear H
           go_wp2
           go_meet
           case rel=>exact ⟨_,(true),(by first|rfl|(simp;done)|(simp [*];done)),H',⟨by have:=HK1.out;have:=HK2.out;have:=HJ8.out;first|omega|exact Nat.le_refl _⟩,⟨by (with_reducible repeat first|apply zbN|apply zb1|apply zbA);exact BK101.out⟩,⟨by repeat first|(with_reducible first|exact HB.out|apply zA|apply zN|apply z1|refine zS ?_ GE101.out)|exact HB.out⟩⟩
          ·rw [if_neg c13] at H
           have c13b0:decide (x0_2 ≤ (-1000000000000000)) = false:=decide_eq_false c13
           clear c13
           (first|rw [c13b0]|(simp only [i64_w,i32_w];rw [c13b0])|skip)
           by_cases c14:x0_2 ≥ 1000000000000000
           ·rw [if_pos c14] at H
            have c14b0:decide (1000000000000000 ≤ x0_2) = true:=decide_eq_true c14
            clear c14
            have H':=z_ H
            clear H
            go_wp2
            go_meet
            case rel=>exact ⟨_,(true),(by first|rfl|(simp;done)|(simp [*];done)),H',⟨by have:=HK1.out;have:=HK2.out;have:=HJ8.out;first|omega|exact Nat.le_refl _⟩,⟨by (with_reducible repeat first|apply zbN|apply zb1|apply zbA);exact BK101.out⟩,⟨by repeat first|(with_reducible first|exact HB.out|apply zA|apply zN|apply z1|refine zS ?_ GE101.out)|exact HB.out⟩⟩
           ·rw [if_neg c14] at H
            have c14b0:decide (1000000000000000 ≤ x0_2) = false:=decide_eq_false c14
            clear c14
            replace H:=Option.bind_eq_some_iff.mp H
            obtain ⟨t105,A150,H⟩:=H
            replace H:(if t105 = 0 then (none) else (if x0_2 > (wrap64 (Int.tdiv (1000000000000000:Int) t105)) then (federationref1_fine.j4 kj8 x0_2 x1_8 x6_8 true) else ((federationref1_Ten.f kj8 x6_8).bind fun t106=>(if t106 = 0 then (none) else (federationref1_fine.j4 kj8 x0_2 x1_8 x6_8 (decide (x0_2 < (wrap64 ((wrap64 (-(wrap64 (Int.tdiv (1000000000000000:Int) t106)))) - 1))))))))) = some (r1,r2,r3,r4,r5):=H
            have A15:=z_ A150
            clear A150
            by_cases c16:t105 = 0
            ·rw [if_pos c16] at H
             exact absurd H (by simp)
            ·rw [if_neg c16] at H
             have c16b0:(t105 == 0) = false:=beq_eq_false_iff_ne.mpr c16
             have c16b1:(t105 != 0) = true:=bne_iff_ne.mpr c16
             by_cases c17:x0_2 > (wrap64 (Int.tdiv (1000000000000000:Int) t105))
             ·rw [if_pos c17] at H
              have c17b0:decide ((wrap64 (Int.tdiv (1000000000000000:Int) t105)) < x0_2) = true:=decide_eq_true c17
              clear c17
              have H':=z_ H
              clear H
              go_wp2_with (first|(go_at_call 57;(with_reducible refine (federationref1_Ten.calls kj8 x6_8 t105 _ A15.out).mono ?_);rintro e w' ⟨rfl,⟨nd,rfl⟩⟩))
              go_meet
              case rel=>exact ⟨_,(true),(by first|rfl|(simp;done)|(simp [*];done)),H',⟨by have:=HK1.out;have:=HK2.out;have:=HJ8.out;first|omega|exact Nat.le_refl _⟩,⟨by (with_reducible repeat first|apply zbN|apply zb1|apply zbA);exact BK101.out⟩,⟨by repeat first|(with_reducible first|exact HB.out|apply zA|apply zN|apply z1|refine zS ?_ GE101.out)|exact HB.out⟩⟩
             ·rw [if_neg c17] at H
              have c17b0:decide ((wrap64 (Int.tdiv (1000000000000000:Int) t105)) < x0_2) = false:=decide_eq_false c17
              clear c17
              replace H:=Option.bind_eq_some_iff.mp H
              obtain ⟨t106,A180,H⟩:=H
              replace H:(if t106 = 0 then (none) else (federationref1_fine.j4 kj8 x0_2 x1_8 x6_8 (decide (x0_2 < (wrap64 ((wrap64 (-(wrap64 (Int.tdiv (1000000000000000:Int) t106)))) - 1)))))) = some (r1,r2,r3,r4,r5):=H
              have A18:=z_ A180
              clear A180
              by_cases c19:t106 = 0
              ·rw [if_pos c19] at H
               exact absurd H (by simp)
              ·rw [if_neg c19] at H
               have c19b0:(t106 == 0) = false:=beq_eq_false_iff_ne.mpr c19
               have c19b1:(t106 != 0) = true:=bne_iff_ne.mpr c19
               have H':=z_ H
               clear H
               (try have e_t106:t106 = t105:=Option.some.inj (A18.out.symm.trans A15.out))
               go_wp2_with (first|(go_at_call 57;(with_reducible refine (federationref1_Ten.calls kj8 x6_8 t105 _ A15.out).mono ?_);rintro e w' ⟨rfl,⟨nd,rfl⟩⟩)|(go_at_call 57;(with_reducible refine (federationref1_Ten.calls kj8 x6_8 t106 _ A18.out).mono ?_);rintro e w' ⟨rfl,⟨nd,rfl⟩⟩))
               go_meet
               case rel=>exact ⟨_,(decide (x0_2 < (wrap64 ((wrap64 (-(wrap64 (Int.tdiv (1000000000000000:Int) t106)))) - 1)))),(by first|rfl|(simp;done)|(simp [*];done)),H',⟨by have:=HK1.out;have:=HK2.out;have:=HJ8.out;first|omega|exact Nat.le_refl _⟩,⟨by (with_reducible repeat first|apply zbN|apply zb1|apply zbA);exact BK101.out⟩,⟨by repeat first|(with_reducible first|exact HB.out|apply zA|apply zN|apply z1|refine zS ?_ GE101.out)|exact HB.out⟩⟩
         case rest =>
          clear HC12
          try clear c1
          try clear p2
          try clear c4
          try clear c4b0
          try clear c5
          try clear p6
          try clear c7
          try clear c7b0
          try clear c10
          try clear c10b0
          try clear c11
          try clear c11b0
          try clear c11b1
          try clear c13
          try clear c13b0
          try clear c14
          try clear c14b0
          try clear c16
          try clear c16b0
          try clear c16b1
          try clear c17
          try clear c17b0
          try clear c19
          try clear c19b0
          try clear c19b1
          try clear p2
          try clear p6
          obtain ⟨kq,x55_11,rfl,HA,HJ11,BK101,HB⟩:=hcut
          cases kq with
          | zero=>exact absurd HA.out (by simp [federationref1_fine.j4])
          | succ kj11 =>
           have H:=HA.out
           clear HA
           simp only [federationref1_fine.j4] at H
           by_cases c20:x55_11 = true
           ·subst c20
            have H1:(some (0,0,0,(⟨#[]⟩:ByteArray),10)) = some (r1,r2,r3,r4,r5):=by rw [if_pos rfl] at H;exact H
            clear H
            have H:=H1
            clear H1
            simp only [Option.some.injEq,Prod.mk.injEq] at H
            obtain ⟨rfl,rfl,rfl,rfl,rfl⟩:=H
            have hcz21_0:wc.cell? ⟨gb101,0,none⟩ = some (.int .i64 0):=(zce BK101.out 0).trans rfl
            have hcz21_1:wc.cell? ⟨gb101,1,none⟩ = some (.int .i64 0):=(zce BK101.out 1).trans rfl
            have hcz21_2:wc.cell? ⟨gb101,2,none⟩ = some (.int .i64 0):=(zce BK101.out 2).trans rfl
            have hcz21_3:wc.cell? ⟨gb101,3,none⟩ = some (.string (⟨#[]⟩:ByteArray)):=(zce BK101.out 3).trans rfl
            have hfz21_0:=zfz BK101.out 0
            have hfz21_1:=zfz BK101.out 1
            have hfz21_2:=zfz BK101.out 2
            have hfz21_3:=zfz BK101.out 3
            go_wp2
            refine bodyPost_ret (results_ct rfl _ _ gb101 23 #[.int .i64 0, .int .i64 0, .int .i64 0, .string (⟨#[]⟩:ByteArray)] (0,0) _ rfl (by (with_reducible repeat first|apply zbN|apply zb1|apply zbA);refine zbp (cs:=#[.int .i64 0, .int .i64 0, .int .i64 0, .string (⟨#[]⟩:ByteArray)]) ?_ 3 _ rfl;(with_reducible repeat first|apply zbN|apply zb1|apply zbA);refine zbp (cs:=#[.int .i64 0, .int .i64 0, .int .i64 0, .string (⟨#[]⟩:ByteArray)]) ?_ 2 _ rfl;(with_reducible repeat first|apply zbN|apply zb1|apply zbA);refine zbp (cs:=#[.int .i64 0, .int .i64 0, .int .i64 0, .string (⟨#[]⟩:ByteArray)]) ?_ 1 _ rfl;(with_reducible repeat first|apply zbN|apply zb1|apply zbA);refine zbp (cs:=#[.int .i64 0, .int .i64 0, .int .i64 0, .string (⟨#[]⟩:ByteArray)]) ?_ 0 _ rfl;(with_reducible repeat first|apply zbN|apply zb1|apply zbA);exact BK101.out) Try.underlying23 rfl (by kernel_rfl)) rfl ?_
            exact ⟨by first|rfl|(simp [errW_none,errW_some] <;> rfl)|(simp [*,errW_none,errW_some] <;> rfl),by repeat first|(with_reducible first|exact HB.out|apply zA|apply zN|apply z1|refine zS ?_ GE101.out)|exact HB.out⟩
           ·replace c20:=Bool.eq_false_iff.mpr c20
            subst c20
            have H1:((federationref1_Ten.f kj11 x6_8).bind fun t107=>((federationref1_Norm.f kj11 3 (wrap64 ((wrap64 (x0_2 * t107)) + x1_8)) x6_8 (⟨#[]⟩:ByteArray)).bind fun bt108=>((federationref1_Right.f kj11 bt108.1 bt108.2.1 bt108.2.2.1 bt108.2.2.2).bind fun t113=>(if t113 = true then (some (bt108.1,bt108.2.1,bt108.2.2.1,bt108.2.2.2,0)) else (some (0,0,0,(⟨#[]⟩:ByteArray),10)))))) = some (r1,r2,r3,r4,r5):=by rw [if_neg (show ¬ (false = true) by decide)] at H;exact H
            clear H
            have H:=H1
            clear H1
            replace H:=Option.bind_eq_some_iff.mp H
            obtain ⟨t107,A220,H⟩:=H
            replace H:((federationref1_Norm.f kj11 3 (wrap64 ((wrap64 (x0_2 * t107)) + x1_8)) x6_8 (⟨#[]⟩:ByteArray)).bind fun bt108=>((federationref1_Right.f kj11 bt108.1 bt108.2.1 bt108.2.2.1 bt108.2.2.2).bind fun t113=>(if t113 = true then (some (bt108.1,bt108.2.1,bt108.2.2.1,bt108.2.2.2,0)) else (some (0,0,0,(⟨#[]⟩:ByteArray),10))))) = some (r1,r2,r3,r4,r5):=H
            have A22:=z_ A220
            clear A220
            replace H:=Option.bind_eq_some_iff.mp H
            obtain ⟨⟨t108,t109,t110,t111⟩,A230,H⟩:=H
            replace H:((federationref1_Right.f kj11 t108 t109 t110 t111).bind fun t113=>(if t113 = true then (some (t108,t109,t110,t111,0)) else (some (0,0,0,(⟨#[]⟩:ByteArray),10)))) = some (r1,r2,r3,r4,r5):=H
            have A23:=z_ A230
            clear A230
            replace H:=Option.bind_eq_some_iff.mp H
            obtain ⟨t113,A240,H⟩:=H
            replace H:(if t113 = true then (some (t108,t109,t110,t111,0)) else (some (0,0,0,(⟨#[]⟩:ByteArray),10))) = some (r1,r2,r3,r4,r5):=H
            have A24:=z_ A240
            clear A240
            by_cases c25:t113 = true
            ·subst c25
             have H1:(some (t108,t109,t110,t111,0)) = some (r1,r2,r3,r4,r5):=by rw [if_pos rfl] at H;exact H
             clear H
             have H:=H1
             clear H1
             simp only [Option.some.injEq,Prod.mk.injEq] at H
             obtain ⟨rfl,rfl,rfl,rfl,rfl⟩:=H
             go_wp2_with (first|((with_reducible refine gate_callee (f:=57) rfl ?_);refine goesL_ (some 59) rfl rfl Try.func57 (by kernel_rfl) rfl #[.int .i64 x6_8] rfl (by (try simp only [List.map_toArray,List.map_cons,List.map_nil]);first|done|rfl|(simp only [List.length_drop,List.length_take];rfl)) ?_;(with_reducible refine (federationref1_Ten.calls kj11 x6_8 t107 _ A22.out).mono ?_);rintro e w' ⟨rfl,⟨nd,rfl⟩⟩;refine ⟨_,rfl,?_⟩;(try (rw [drewN_self wc];generalize hq_:World.drewN wc _ = wc;have n0_:Aside0 (wc.heap[gb101]? = some (.cells #[.int .i64 0, .int .i64 0, .int .i64 0, .string (⟨#[]⟩:ByteArray)] 23 (0,0))):=⟨by rw [← hq_];exact (by (with_reducible repeat first|apply zbN|apply zb1|apply zbA);exact BK101.out)⟩;have n1_:Aside0 (Below w.heap.size w wc):=⟨by rw [← hq_];exact (by repeat first|(with_reducible first|exact HB.out|apply zA|apply zN|apply z1|refine zS ?_ GE101.out)|exact HB.out)⟩;clear BK101 HB hq_;have BK101:=n0_;have HB:=n1_;clear n0_ n1_));(try have hcu26_0:wc.cell? ⟨gb101,0,none⟩ = some (.int .i64 0):=(zce BK101.out 0).trans rfl);(try have hcu26_1:wc.cell? ⟨gb101,1,none⟩ = some (.int .i64 0):=(zce BK101.out 1).trans rfl);(try have hcu26_2:wc.cell? ⟨gb101,2,none⟩ = some (.int .i64 0):=(zce BK101.out 2).trans rfl);(try have hcu26_3:wc.cell? ⟨gb101,3,none⟩ = some (.string (⟨#[]⟩:ByteArray)):=(zce BK101.out 3).trans rfl);(try have hfu26_0:=zfz BK101.out 0);(try have hfu26_1:=zfz BK101.out 1);(try have hfu26_2:=zfz BK101.out 2);(try have hfu26_3:=zfz BK101.out 3))|((with_reducible refine gate_callee (f:=19) rfl ?_);refine goesL_ (some 65) rfl rfl Try.func19 (by kernel_rfl) rfl #[.agg #[.int .i64 3, .int .i64 (wrap64 ((wrap64 (x0_2 * t107)) + x1_8)), .int .i64 x6_8, .string (⟨#[]⟩:ByteArray)]] rfl (by (try simp only [List.map_toArray,List.map_cons,List.map_nil]);first|done|rfl|(simp only [List.length_drop,List.length_take];rfl)) ?_;(with_reducible refine (federationref1_Norm.calls kj11 3 (wrap64 ((wrap64 (x0_2 * t107)) + x1_8)) x6_8 (⟨#[]⟩:ByteArray) t108 t109 t110 t111 _ A23.out).mono ?_);rintro e w27 ⟨rfl,hb⟩;refine ⟨_,rfl,?_⟩;have n0_:=z_ (zbb (g:=gb101) (o:=.cells #[.int .i64 0, .int .i64 0, .int .i64 0, .string (⟨#[]⟩:ByteArray)] 23 (0,0)) (by (with_reducible repeat first|apply zbN|apply zb1|apply zbA);exact BK101.out) hb);have n1_:=z_ (below_step (by repeat first|(with_reducible first|exact HB.out|apply zA|apply zN|apply z1|refine zS ?_ GE101.out)|exact HB.out) hb);clear BK101;clear HB;have BK101:=n0_;have HB:=n1_;clear n0_ n1_;(try clear hb);(try clear hb2);(try clear hk);(try clear hi))|((with_reducible refine gate_dst (N:=7) rfl ?_);refine box_event ?hg (N:=7) ?hd (cs:=#[.int .i64 0, .int .i64 0, .int .i64 0, .string (⟨#[]⟩:ByteArray)]) (t:=23) ?hr ?_;(case hd=>rfl);(case hg=>rfl);(case hr=>first|(go_simp;done)|(go_simp;rfl));intro gb112 hg w28 hbox hb;have n0_:=z_ (zbb (g:=gb101) (o:=.cells #[.int .i64 0, .int .i64 0, .int .i64 0, .string (⟨#[]⟩:ByteArray)] 23 (0,0)) (by (with_reducible repeat first|apply zbN|apply zb1|apply zbA);exact BK101.out) hb);have n1_:=z_ (below_step (by repeat first|(with_reducible first|exact HB.out|apply zA|apply zN|apply z1|refine zS ?_ GE101.out)|exact HB.out) hb);have n2_:=z_ (hbox);have n3_:=z_ ((by rw [hg];exact (zBs (by repeat first|(with_reducible first|exact HB.out|apply zA|apply zN|apply z1|refine zS ?_ GE101.out)|exact HB.out)):w.heap.size ≤ gb112));have n4_:=z_ ((by rw [hg];exact (zBs (by repeat first|(with_reducible first|exact HB.out|apply zA|apply zN|apply z1|refine zS ?_ GE101.out)|exact HB.out)):w.heap.size ≤ gb112));have n5_:=z_ ((by rw [hg];exact Nat.ne_of_lt (blk_lt (g:=gb101) (o:=.cells #[.int .i64 0, .int .i64 0, .int .i64 0, .string (⟨#[]⟩:ByteArray)] 23 (0,0)) (by (with_reducible repeat first|apply zbN|apply zb1|apply zbA);exact BK101.out)):gb101 ≠ gb112));have n6_:=z_ ((by rw [hg];exact Nat.ne_of_gt (blk_lt (g:=gb101) (o:=.cells #[.int .i64 0, .int .i64 0, .int .i64 0, .string (⟨#[]⟩:ByteArray)] 23 (0,0)) (by (with_reducible repeat first|apply zbN|apply zb1|apply zbA);exact BK101.out)):gb112 ≠ gb101));clear BK101;clear HB;have BK101:=n0_;have HB:=n1_;have BK112:=n2_;have GW112:=n3_;have GE112:=n4_;have NB101_112:=n5_;have NB112_101:=n6_;clear n0_ n1_ n2_ n3_ n4_ n5_ n6_;clear hb hbox hg;have hnb29:=NB112_101.out;have hnc29:=NB101_112.out;have hcz30_0:w28.cell? ⟨gb112,0,none⟩ = some (.int .i64 0):=(zce BK112.out 0).trans rfl;have hcz30_1:w28.cell? ⟨gb112,1,none⟩ = some (.int .i64 0):=(zce BK112.out 1).trans rfl;have hcz30_2:w28.cell? ⟨gb112,2,none⟩ = some (.int .i64 0):=(zce BK112.out 2).trans rfl;have hcz30_3:w28.cell? ⟨gb112,3,none⟩ = some (.string (⟨#[]⟩:ByteArray)):=(zce BK112.out 3).trans rfl;have hfz30_0:=zfz BK112.out 0;have hfz30_1:=zfz BK112.out 1;have hfz30_2:=zfz BK112.out 2;have hfz30_3:=zfz BK112.out 3)|((with_reducible refine gate_callee (f:=18) rfl ?_);refine goesL_ (some 67) rfl rfl Try.func18 (by kernel_rfl) rfl #[.agg #[.int .i64 t108, .int .i64 t109, .int .i64 t110, .string t111]] rfl (by (try simp only [List.map_toArray,List.map_cons,List.map_nil]);first|done|rfl|(simp only [List.length_drop,List.length_take];rfl)) ?_;(with_reducible refine (federationref1_Right.calls kj11 t108 t109 t110 t111 true _ A24.out).mono ?_);rintro e w31 ⟨rfl,hb⟩;refine ⟨_,rfl,?_⟩;have n0_:=z_ (zbb (g:=gb101) (o:=.cells #[.int .i64 0, .int .i64 0, .int .i64 0, .string (⟨#[]⟩:ByteArray)] 23 (0,0)) (by (with_reducible repeat first|apply zbN|apply zb1|apply zbA);refine zbf ?_ NB101_112.out _;(with_reducible repeat first|apply zbN|apply zb1|apply zbA);refine zbf ?_ NB101_112.out _;(with_reducible repeat first|apply zbN|apply zb1|apply zbA);refine zbf ?_ NB101_112.out _;(with_reducible repeat first|apply zbN|apply zb1|apply zbA);refine zbf ?_ NB101_112.out _;(with_reducible repeat first|apply zbN|apply zb1|apply zbA);exact BK101.out) hb);have n1_:=z_ (zbb (g:=gb112) (o:=.cells #[.int .i64 t108, .int .i64 t109, .int .i64 t110, .string t111] 23 (0,0)) (by (with_reducible repeat first|apply zbN|apply zb1|apply zbA);refine zbp (cs:=#[.int .i64 t108, .int .i64 t109, .int .i64 t110, .string (⟨#[]⟩:ByteArray)]) ?_ 3 _ rfl;(with_reducible repeat first|apply zbN|apply zb1|apply zbA);refine zbp (cs:=#[.int .i64 t108, .int .i64 t109, .int .i64 0, .string (⟨#[]⟩:ByteArray)]) ?_ 2 _ rfl;(with_reducible repeat first|apply zbN|apply zb1|apply zbA);refine zbp (cs:=#[.int .i64 t108, .int .i64 0, .int .i64 0, .string (⟨#[]⟩:ByteArray)]) ?_ 1 _ rfl;(with_reducible repeat first|apply zbN|apply zb1|apply zbA);refine zbp (cs:=#[.int .i64 0, .int .i64 0, .int .i64 0, .string (⟨#[]⟩:ByteArray)]) ?_ 0 _ rfl;(with_reducible repeat first|apply zbN|apply zb1|apply zbA);exact BK112.out) hb);have n2_:=z_ (below_step (by repeat first|(with_reducible first|exact HB.out|apply zA|apply zN|apply z1|refine zS ?_ GE101.out|refine zS ?_ GE112.out)|exact HB.out) hb);clear BK101;clear BK112;clear HB;have BK101:=n0_;have BK112:=n1_;have HB:=n2_;clear n0_ n1_ n2_;(try clear hb);(try clear hb2);(try clear hk);(try clear hi);have hcz32_0:w31.cell? ⟨gb112,0,none⟩ = some (.int .i64 t108):=(zce BK112.out 0).trans rfl;have hcz32_1:w31.cell? ⟨gb112,1,none⟩ = some (.int .i64 t109):=(zce BK112.out 1).trans rfl;have hcz32_2:w31.cell? ⟨gb112,2,none⟩ = some (.int .i64 t110):=(zce BK112.out 2).trans rfl;have hcz32_3:w31.cell? ⟨gb112,3,none⟩ = some (.string t111):=(zce BK112.out 3).trans rfl;have hfz32_0:=zfz BK112.out 0;have hfz32_1:=zfz BK112.out 1;have hfz32_2:=zfz BK112.out 2;have hfz32_3:=zfz BK112.out 3;have hcz33_0:w31.cell? ⟨gb101,0,none⟩ = some (.int .i64 0):=(zce BK101.out 0).trans rfl;have hcz33_1:w31.cell? ⟨gb101,1,none⟩ = some (.int .i64 0):=(zce BK101.out 1).trans rfl;have hcz33_2:w31.cell? ⟨gb101,2,none⟩ = some (.int .i64 0):=(zce BK101.out 2).trans rfl;have hcz33_3:w31.cell? ⟨gb101,3,none⟩ = some (.string (⟨#[]⟩:ByteArray)):=(zce BK101.out 3).trans rfl;have hfz33_0:=zfz BK101.out 0;have hfz33_1:=zfz BK101.out 1;have hfz33_2:=zfz BK101.out 2;have hfz33_3:=zfz BK101.out 3))
             refine bodyPost_ret (results_ct rfl _ _ gb101 23 #[.int .i64 t108, .int .i64 t109, .int .i64 t110, .string t111] (0,0) _ rfl (by (with_reducible repeat first|apply zbN|apply zb1|apply zbA);refine zbp (cs:=#[.int .i64 t108, .int .i64 t109, .int .i64 t110, .string (⟨#[]⟩:ByteArray)]) ?_ 3 _ rfl;(with_reducible repeat first|apply zbN|apply zb1|apply zbA);refine zbp (cs:=#[.int .i64 t108, .int .i64 t109, .int .i64 0, .string (⟨#[]⟩:ByteArray)]) ?_ 2 _ rfl;(with_reducible repeat first|apply zbN|apply zb1|apply zbA);refine zbp (cs:=#[.int .i64 t108, .int .i64 0, .int .i64 0, .string (⟨#[]⟩:ByteArray)]) ?_ 1 _ rfl;(with_reducible repeat first|apply zbN|apply zb1|apply zbA);refine zbp (cs:=#[.int .i64 0, .int .i64 0, .int .i64 0, .string (⟨#[]⟩:ByteArray)]) ?_ 0 _ rfl;(with_reducible repeat first|apply zbN|apply zb1|apply zbA);exact BK101.out) Try.underlying23 rfl (by kernel_rfl)) rfl ?_
             exact ⟨by first|rfl|(simp [errW_none,errW_some] <;> rfl)|(simp [*,errW_none,errW_some] <;> rfl),by repeat first|(with_reducible first|exact HB.out|apply zA|apply zN|apply z1|refine zS ?_ GE101.out|refine zS ?_ GE112.out)|exact HB.out⟩
            ·replace c25:=Bool.eq_false_iff.mpr c25
             subst c25
             have H1:(some (0,0,0,(⟨#[]⟩:ByteArray),10)) = some (r1,r2,r3,r4,r5):=by rw [if_neg (show ¬ (false = true) by decide)] at H;exact H
             clear H
             have H:=H1
             clear H1
             simp only [Option.some.injEq,Prod.mk.injEq] at H
             obtain ⟨rfl,rfl,rfl,rfl,rfl⟩:=H
             go_wp2_with (first|((with_reducible refine gate_callee (f:=57) rfl ?_);refine goesL_ (some 59) rfl rfl Try.func57 (by kernel_rfl) rfl #[.int .i64 x6_8] rfl (by (try simp only [List.map_toArray,List.map_cons,List.map_nil]);first|done|rfl|(simp only [List.length_drop,List.length_take];rfl)) ?_;(with_reducible refine (federationref1_Ten.calls kj11 x6_8 t107 _ A22.out).mono ?_);rintro e w' ⟨rfl,⟨nd,rfl⟩⟩;refine ⟨_,rfl,?_⟩;(try (rw [drewN_self wc];generalize hq_:World.drewN wc _ = wc;have n0_:Aside0 (wc.heap[gb101]? = some (.cells #[.int .i64 0, .int .i64 0, .int .i64 0, .string (⟨#[]⟩:ByteArray)] 23 (0,0))):=⟨by rw [← hq_];exact (by (with_reducible repeat first|apply zbN|apply zb1|apply zbA);exact BK101.out)⟩;have n1_:Aside0 (Below w.heap.size w wc):=⟨by rw [← hq_];exact (by repeat first|(with_reducible first|exact HB.out|apply zA|apply zN|apply z1|refine zS ?_ GE101.out)|exact HB.out)⟩;clear BK101 HB hq_;have BK101:=n0_;have HB:=n1_;clear n0_ n1_));(try have hcu34_0:wc.cell? ⟨gb101,0,none⟩ = some (.int .i64 0):=(zce BK101.out 0).trans rfl);(try have hcu34_1:wc.cell? ⟨gb101,1,none⟩ = some (.int .i64 0):=(zce BK101.out 1).trans rfl);(try have hcu34_2:wc.cell? ⟨gb101,2,none⟩ = some (.int .i64 0):=(zce BK101.out 2).trans rfl);(try have hcu34_3:wc.cell? ⟨gb101,3,none⟩ = some (.string (⟨#[]⟩:ByteArray)):=(zce BK101.out 3).trans rfl);(try have hfu34_0:=zfz BK101.out 0);(try have hfu34_1:=zfz BK101.out 1);(try have hfu34_2:=zfz BK101.out 2);(try have hfu34_3:=zfz BK101.out 3))|((with_reducible refine gate_callee (f:=19) rfl ?_);refine goesL_ (some 65) rfl rfl Try.func19 (by kernel_rfl) rfl #[.agg #[.int .i64 3, .int .i64 (wrap64 ((wrap64 (x0_2 * t107)) + x1_8)), .int .i64 x6_8, .string (⟨#[]⟩:ByteArray)]] rfl (by (try simp only [List.map_toArray,List.map_cons,List.map_nil]);first|done|rfl|(simp only [List.length_drop,List.length_take];rfl)) ?_;(with_reducible refine (federationref1_Norm.calls kj11 3 (wrap64 ((wrap64 (x0_2 * t107)) + x1_8)) x6_8 (⟨#[]⟩:ByteArray) t108 t109 t110 t111 _ A23.out).mono ?_);rintro e w35 ⟨rfl,hb⟩;refine ⟨_,rfl,?_⟩;have n0_:=z_ (zbb (g:=gb101) (o:=.cells #[.int .i64 0, .int .i64 0, .int .i64 0, .string (⟨#[]⟩:ByteArray)] 23 (0,0)) (by (with_reducible repeat first|apply zbN|apply zb1|apply zbA);exact BK101.out) hb);have n1_:=z_ (below_step (by repeat first|(with_reducible first|exact HB.out|apply zA|apply zN|apply z1|refine zS ?_ GE101.out)|exact HB.out) hb);clear BK101;clear HB;have BK101:=n0_;have HB:=n1_;clear n0_ n1_;(try clear hb);(try clear hb2);(try clear hk);(try clear hi))|((with_reducible refine gate_dst (N:=7) rfl ?_);refine box_event ?hg (N:=7) ?hd (cs:=#[.int .i64 0, .int .i64 0, .int .i64 0, .string (⟨#[]⟩:ByteArray)]) (t:=23) ?hr ?_;(case hd=>rfl);(case hg=>rfl);(case hr=>first|(go_simp;done)|(go_simp;rfl));intro gb112 hg w36 hbox hb;have n0_:=z_ (zbb (g:=gb101) (o:=.cells #[.int .i64 0, .int .i64 0, .int .i64 0, .string (⟨#[]⟩:ByteArray)] 23 (0,0)) (by (with_reducible repeat first|apply zbN|apply zb1|apply zbA);exact BK101.out) hb);have n1_:=z_ (below_step (by repeat first|(with_reducible first|exact HB.out|apply zA|apply zN|apply z1|refine zS ?_ GE101.out)|exact HB.out) hb);have n2_:=z_ (hbox);have n3_:=z_ ((by rw [hg];exact (zBs (by repeat first|(with_reducible first|exact HB.out|apply zA|apply zN|apply z1|refine zS ?_ GE101.out)|exact HB.out)):w.heap.size ≤ gb112));have n4_:=z_ ((by rw [hg];exact (zBs (by repeat first|(with_reducible first|exact HB.out|apply zA|apply zN|apply z1|refine zS ?_ GE101.out)|exact HB.out)):w.heap.size ≤ gb112));have n5_:=z_ ((by rw [hg];exact Nat.ne_of_lt (blk_lt (g:=gb101) (o:=.cells #[.int .i64 0, .int .i64 0, .int .i64 0, .string (⟨#[]⟩:ByteArray)] 23 (0,0)) (by (with_reducible repeat first|apply zbN|apply zb1|apply zbA);exact BK101.out)):gb101 ≠ gb112));have n6_:=z_ ((by rw [hg];exact Nat.ne_of_gt (blk_lt (g:=gb101) (o:=.cells #[.int .i64 0, .int .i64 0, .int .i64 0, .string (⟨#[]⟩:ByteArray)] 23 (0,0)) (by (with_reducible repeat first|apply zbN|apply zb1|apply zbA);exact BK101.out)):gb112 ≠ gb101));clear BK101;clear HB;have BK101:=n0_;have HB:=n1_;have BK112:=n2_;have GW112:=n3_;have GE112:=n4_;have NB101_112:=n5_;have NB112_101:=n6_;clear n0_ n1_ n2_ n3_ n4_ n5_ n6_;clear hb hbox hg;have hnb37:=NB112_101.out;have hnc37:=NB101_112.out;have hcz38_0:w36.cell? ⟨gb112,0,none⟩ = some (.int .i64 0):=(zce BK112.out 0).trans rfl;have hcz38_1:w36.cell? ⟨gb112,1,none⟩ = some (.int .i64 0):=(zce BK112.out 1).trans rfl;have hcz38_2:w36.cell? ⟨gb112,2,none⟩ = some (.int .i64 0):=(zce BK112.out 2).trans rfl;have hcz38_3:w36.cell? ⟨gb112,3,none⟩ = some (.string (⟨#[]⟩:ByteArray)):=(zce BK112.out 3).trans rfl;have hfz38_0:=zfz BK112.out 0;have hfz38_1:=zfz BK112.out 1;have hfz38_2:=zfz BK112.out 2;have hfz38_3:=zfz BK112.out 3)|((with_reducible refine gate_callee (f:=18) rfl ?_);refine goesL_ (some 67) rfl rfl Try.func18 (by kernel_rfl) rfl #[.agg #[.int .i64 t108, .int .i64 t109, .int .i64 t110, .string t111]] rfl (by (try simp only [List.map_toArray,List.map_cons,List.map_nil]);first|done|rfl|(simp only [List.length_drop,List.length_take];rfl)) ?_;(with_reducible refine (federationref1_Right.calls kj11 t108 t109 t110 t111 false _ A24.out).mono ?_);rintro e w39 ⟨rfl,hb⟩;refine ⟨_,rfl,?_⟩;have n0_:=z_ (zbb (g:=gb101) (o:=.cells #[.int .i64 0, .int .i64 0, .int .i64 0, .string (⟨#[]⟩:ByteArray)] 23 (0,0)) (by (with_reducible repeat first|apply zbN|apply zb1|apply zbA);refine zbf ?_ NB101_112.out _;(with_reducible repeat first|apply zbN|apply zb1|apply zbA);refine zbf ?_ NB101_112.out _;(with_reducible repeat first|apply zbN|apply zb1|apply zbA);refine zbf ?_ NB101_112.out _;(with_reducible repeat first|apply zbN|apply zb1|apply zbA);refine zbf ?_ NB101_112.out _;(with_reducible repeat first|apply zbN|apply zb1|apply zbA);exact BK101.out) hb);have n1_:=z_ (zbb (g:=gb112) (o:=.cells #[.int .i64 t108, .int .i64 t109, .int .i64 t110, .string t111] 23 (0,0)) (by (with_reducible repeat first|apply zbN|apply zb1|apply zbA);refine zbp (cs:=#[.int .i64 t108, .int .i64 t109, .int .i64 t110, .string (⟨#[]⟩:ByteArray)]) ?_ 3 _ rfl;(with_reducible repeat first|apply zbN|apply zb1|apply zbA);refine zbp (cs:=#[.int .i64 t108, .int .i64 t109, .int .i64 0, .string (⟨#[]⟩:ByteArray)]) ?_ 2 _ rfl;(with_reducible repeat first|apply zbN|apply zb1|apply zbA);refine zbp (cs:=#[.int .i64 t108, .int .i64 0, .int .i64 0, .string (⟨#[]⟩:ByteArray)]) ?_ 1 _ rfl;(with_reducible repeat first|apply zbN|apply zb1|apply zbA);refine zbp (cs:=#[.int .i64 0, .int .i64 0, .int .i64 0, .string (⟨#[]⟩:ByteArray)]) ?_ 0 _ rfl;(with_reducible repeat first|apply zbN|apply zb1|apply zbA);exact BK112.out) hb);have n2_:=z_ (below_step (by repeat first|(with_reducible first|exact HB.out|apply zA|apply zN|apply z1|refine zS ?_ GE101.out|refine zS ?_ GE112.out)|exact HB.out) hb);clear BK101;clear BK112;clear HB;have BK101:=n0_;have BK112:=n1_;have HB:=n2_;clear n0_ n1_ n2_;(try clear hb);(try clear hb2);(try clear hk);(try clear hi);have hcz40_0:w39.cell? ⟨gb101,0,none⟩ = some (.int .i64 0):=(zce BK101.out 0).trans rfl;have hcz40_1:w39.cell? ⟨gb101,1,none⟩ = some (.int .i64 0):=(zce BK101.out 1).trans rfl;have hcz40_2:w39.cell? ⟨gb101,2,none⟩ = some (.int .i64 0):=(zce BK101.out 2).trans rfl;have hcz40_3:w39.cell? ⟨gb101,3,none⟩ = some (.string (⟨#[]⟩:ByteArray)):=(zce BK101.out 3).trans rfl;have hfz40_0:=zfz BK101.out 0;have hfz40_1:=zfz BK101.out 1;have hfz40_2:=zfz BK101.out 2;have hfz40_3:=zfz BK101.out 3))
             refine bodyPost_ret (results_ct rfl _ _ gb101 23 #[.int .i64 0, .int .i64 0, .int .i64 0, .string (⟨#[]⟩:ByteArray)] (0,0) _ rfl (by (with_reducible repeat first|apply zbN|apply zb1|apply zbA);refine zbp (cs:=#[.int .i64 0, .int .i64 0, .int .i64 0, .string (⟨#[]⟩:ByteArray)]) ?_ 3 _ rfl;(with_reducible repeat first|apply zbN|apply zb1|apply zbA);refine zbp (cs:=#[.int .i64 0, .int .i64 0, .int .i64 0, .string (⟨#[]⟩:ByteArray)]) ?_ 2 _ rfl;(with_reducible repeat first|apply zbN|apply zb1|apply zbA);refine zbp (cs:=#[.int .i64 0, .int .i64 0, .int .i64 0, .string (⟨#[]⟩:ByteArray)]) ?_ 1 _ rfl;(with_reducible repeat first|apply zbN|apply zb1|apply zbA);refine zbp (cs:=#[.int .i64 0, .int .i64 0, .int .i64 0, .string (⟨#[]⟩:ByteArray)]) ?_ 0 _ rfl;(with_reducible repeat first|apply zbN|apply zb1|apply zbA);exact BK101.out) Try.underlying23 rfl (by kernel_rfl)) rfl ?_
             exact ⟨by first|rfl|(simp [errW_none,errW_some] <;> rfl)|(simp [*,errW_none,errW_some] <;> rfl),by repeat first|(with_reducible first|exact HB.out|apply zA|apply zN|apply z1|refine zS ?_ GE101.out|refine zS ?_ GE112.out)|exact HB.out⟩
end Go.Proofs.Ytllkhdhanheieaa.R
