-- Written by drive.py and pack.py (programs of this proof's own) through the kit's printer; not trusted: Lean checks it.
import Derived.Test.YtdlkibeljkapeaaGreatDoorCSqlBack6
import Derived.Test.YtdlkibeljkapeaaGreatDoorCSqlBack7
import Derived.Lib.Strings
import Derived.Test.YtdlkibeljkapeaaGreatDoorCSqlBack4
import Derived.Test.YtdlkibeljkapeaaGreatDoorCSqlBack3
namespace Go.Proofs.YtdlkibeljkapeaaGreatDoor.B
open Go.RowKit Go.Proofs.YtdlkibeljkapeaaGreatDoorW.PrintWords Go.Proofs.YtdlkibeljkapeaaGreatDoorW.PrintLast Go.Proofs.YtdlkibeljkapeaaGreatDoorW.PrintMore
attribute [local go_sem] max2_int min2_int max_two min_two max_three min_three max_four min_four
attribute [local go_sem high] own_gtr own_leq own_geq own_cell_set Option.map_some
set_option linter.unusedVariables false
set_option linter.unusedSimpArgs false
attribute [local go_sem high] eqA28
def val_Right.j0:Nat → Bool → Int → Int → Int → ByteArray → Int → Int → Int → ByteArray → Option (Bool)
 | 0,_,_,_,_,_,_,_,_,_=>none
 | k + 1,x52,x102000,x102001,x102002,x102003,x103000,x103001,x103002,x103003=>if x52 = true then (if (x102003.size:Int) > 40 then (some false) else (if x102000 = 4 then ((val_printable.f k x102003).bind fun t103=>(if t103 = true then (some (x102000 == x103000 && (x102001 == x103001 && (x102002 == x103002)))) else (some false))) else (some (x102000 == x103000 && (x102001 == x103001 && (x102002 == x103002)))))) else (some false)
def val_Right.f (k:Nat) (a0_0:Int) (a0_1:Int) (a0_2:Int) (a0_3:ByteArray):Option (Bool):=if a0_0 = 0 then (some (a0_1 == 0 && (a0_2 == 0 && (a0_3.toList == ([]:List UInt8))))) else (if a0_0 = 1 then (some (a0_1 == (mn (mx a0_1 0) 1) && (a0_2 == 0 && (a0_3.toList == ([]:List UInt8))))) else (if a0_0 = 2 then (some (a0_2 == 0 && (a0_3.toList == ([]:List UInt8)))) else (if a0_0 = 3 then (if a0_1 ≤ (-1000000000000000) then (some false) else (if a0_1 ≥ 1000000000000000 then (some false) else (if a0_2 > 0 then (if (Int.tmod a0_1 10) = 0 then (some false) else (some (a0_2 == (mn (mx a0_2 0) 6) && (a0_3.toList == ([]:List UInt8))))) else (some (a0_2 == (mn (mx a0_2 0) 6) && (a0_3.toList == ([]:List UInt8))))))) else (if a0_0 = 4 then (val_Right.j0 k (a0_0 == 4) a0_0 a0_1 a0_2 a0_3 a0_0 0 0 (⟨#[]⟩:ByteArray)) else (val_Right.j0 k (a0_0 == 5) a0_0 a0_1 a0_2 a0_3 a0_0 0 0 (⟨#[]⟩:ByteArray))))))
def val_Right.T10:Bool × List (List Nat × List Nat):=(true,[([],[]),([0],[0]),([],[]),([2],[2]),([3],[3]),([4],[4]),([0,1],[]),([6,1,0,1],[1,6]),([0,1,2,3,4,5,6,7],[]),([8,5,7,0,1,2,3,4,5,6,7],[5,8])])
def val_Right.B10:List Nat:=[0,1,0,4,12,28,3,67,255,511]
theorem val_Right.tab10:rtab .any (opsOf Tryz.f142 10) = val_Right.T10:=by kernel_rfl
theorem val_Right.bits10:waitsOk val_Right.T10.2 val_Right.B10 = true:=by kernel_rfl
set_option maxHeartbeats 8000000 in
set_option maxRecDepth 100000 in
theorem val_Right.calls (k:Nat) (a0_0:Int) (a0_1:Int) (a0_2:Int) (a0_3:ByteArray) (r:Bool) (w:World) (h:val_Right.f k a0_0 a0_1 a0_2 a0_3 = some r) :
  Calls Tryz.prog 142 #[.agg #[.int .i64 a0_0, .int .i64 a0_1, .int .i64 a0_2, .string a0_3]] w fun e w'=>e = .returned (.bool r) ∧ Below w.heap.size w w':=by
 have hu28:=Tryz.underlying28
 have HB:=z_ (Below.refl w.heap.size w)
 have H:(if a0_0 = 0 then (some (a0_1 == 0 && (a0_2 == 0 && (a0_3.toList == ([]:List UInt8))))) else (if a0_0 = 1 then (some (a0_1 == (mn (mx a0_1 0) 1) && (a0_2 == 0 && (a0_3.toList == ([]:List UInt8))))) else (if a0_0 = 2 then (some (a0_2 == 0 && (a0_3.toList == ([]:List UInt8)))) else (if a0_0 = 3 then (if a0_1 ≤ (-1000000000000000) then (some false) else (if a0_1 ≥ 1000000000000000 then (some false) else (if a0_2 > 0 then (if (Int.tmod a0_1 10) = 0 then (some false) else (some (a0_2 == (mn (mx a0_2 0) 6) && (a0_3.toList == ([]:List UInt8))))) else (some (a0_2 == (mn (mx a0_2 0) 6) && (a0_3.toList == ([]:List UInt8))))))) else (if a0_0 = 4 then (val_Right.j0 k (a0_0 == 4) a0_0 a0_1 a0_2 a0_3 a0_0 0 0 (⟨#[]⟩:ByteArray)) else (val_Right.j0 k (a0_0 == 5) a0_0 a0_1 a0_2 a0_3 a0_0 0 0 (⟨#[]⟩:ByteArray))))))) = some r:=h
 clear h
 by_cases c2:a0_0 = 0
 ·rw [if_pos c2] at H
  have c2b0:(a0_0 == 0) = true:=beq_iff_eq.mpr c2
  have c2b1:(a0_0 != 0) = false:=bne_eq_false_iff_eq.mpr c2
  clear c2
  obtain rfl:=Option.some.inj H
  go_enter Tryz.func142,Tryz.ntmps142
  go_wp2_with (first|((with_reducible refine gate_dst (N:=1) rfl ?_);refine box_event (by rfl) (N:=1) (by rfl) (cs:=#[.int .i64 a0_0, .int .i64 a0_1, .int .i64 a0_2, .string a0_3]) (t:=28) Da ?_;intro gb101 hg w3 hbox hb;have BK101:=z_ (hbox);have GW101:=z_ ((Dh:w.heap.size ≤ gb101));have GE101:=z_ ((Dh:w.heap.size ≤ gb101));replace HB:=z_ (below_step Fe hb);clear hb hbox hg;obtain ⟨_,_,_,_,_,_,_,_⟩:=Bj BK101.out)|((with_reducible refine gate_dst (N:=3) rfl ?_);refine box_event (by rfl) (N:=3) (by rfl) (cs:=#[.int .i64 0, .int .i64 0, .int .i64 0, .string (⟨#[]⟩:ByteArray)]) (t:=28) Da ?_;intro gb102 hg w5 hbox hb;have BK102:=z_ (hbox);have GW102:=z_ ((Do:w.heap.size ≤ gb102));have GE102:=z_ ((Do:w.heap.size ≤ gb102));replace HB:=z_ (below_step Fg hb);have NB101_102:=z_ ((K6:gb101 ≠ gb102));have NB102_101:=z_ ((K5:gb102 ≠ gb101));replace BK101:=z_ (zk BK101.out hb);clear hb hbox hg;have hnb6:=NB102_101.out;have hnc6:=NB101_102.out;obtain ⟨_,_,_,_,_,_,_,_⟩:=Bj BK102.out;obtain ⟨_,_,_,_,_,_,_,_⟩:=Bj BK101.out))
  go_ret
  exact ⟨by first|rfl|(simp [errW_none,errW_some] <;> rfl)|(simp [*,errW_none,errW_some] <;> rfl),by repeat first|(with_reducible first|exact HB.out|apply zA|apply zN|apply z1|refine zS ?_ GE101.out|refine zS ?_ GE102.out)|exact HB.out⟩
 ·rw [if_neg c2] at H
  have c2b0:(a0_0 == 0) = false:=beq_eq_false_iff_ne.mpr c2
  have c2b1:(a0_0 != 0) = true:=bne_iff_ne.mpr c2
  by_cases c9:a0_0 = 1
  ·rw [if_pos c9] at H
   have c9b0:(a0_0 == 1) = true:=beq_iff_eq.mpr c9
   have c9b1:(a0_0 != 1) = false:=bne_eq_false_iff_eq.mpr c9
   clear c9
   obtain ⟨ji10,hji10⟩:∃ j_:Int,(mx a0_1 0) = j_:=⟨_,rfl⟩
   replace H:(some (a0_1 == (mn (ji10) 1) && (a0_2 == 0 && (a0_3.toList == ([]:List UInt8))))) = some r:=by first|(rw [hji10] at H;exact H)|(simp only [hji10] at H ⊢;exact H)
   (try (have hji10l:0 ≤ ji10:=by (rw [← hji10];unfold mx;(repeat' split) <;> omega)))
   (try (have hji10m:0 ≤ ji10:=by omega))
   have hji10_:(if a0_1 < 0 then 0 else a0_1) = ji10:=hji10
   obtain ⟨ji11,hji11⟩:∃ j_:Int,(mn (ji10) 1) = j_:=⟨_,rfl⟩
   replace H:(some (a0_1 == (ji11) && (a0_2 == 0 && (a0_3.toList == ([]:List UInt8))))) = some r:=by first|(rw [hji11] at H;exact H)|(simp only [hji11] at H ⊢;exact H)
   have hji11_:(if 1 < (ji10) then 1 else (ji10)) = ji11:=hji11
   obtain rfl:=Option.some.inj H
   go_enter Tryz.func142,Tryz.ntmps142
   go_wp2_with (first|((with_reducible refine gate_dst (N:=1) rfl ?_);refine box_event (by rfl) (N:=1) (by rfl) (cs:=#[.int .i64 a0_0, .int .i64 a0_1, .int .i64 a0_2, .string a0_3]) (t:=28) Da ?_;intro gb101 hg w12 hbox hb;have BK101:=z_ (hbox);have GW101:=z_ ((Dh:w.heap.size ≤ gb101));have GE101:=z_ ((Dh:w.heap.size ≤ gb101));replace HB:=z_ (below_step Fe hb);clear hb hbox hg;obtain ⟨_,_,_,_,_,_,_,_⟩:=Bj BK101.out)|((with_reducible refine gate_dst (N:=3) rfl ?_);refine box_event (by rfl) (N:=3) (by rfl) (cs:=#[.int .i64 0, .int .i64 0, .int .i64 0, .string (⟨#[]⟩:ByteArray)]) (t:=28) Da ?_;intro gb102 hg w14 hbox hb;have BK102:=z_ (hbox);have GW102:=z_ ((Do:w.heap.size ≤ gb102));have GE102:=z_ ((Do:w.heap.size ≤ gb102));replace HB:=z_ (below_step Fg hb);have NB101_102:=z_ ((K6:gb101 ≠ gb102));have NB102_101:=z_ ((K5:gb102 ≠ gb101));replace BK101:=z_ (zk BK101.out hb);clear hb hbox hg;have hnb15:=NB102_101.out;have hnc15:=NB101_102.out;obtain ⟨_,_,_,_,_,_,_,_⟩:=Bj BK102.out;obtain ⟨_,_,_,_,_,_,_,_⟩:=Bj BK101.out))
   go_ret
   exact ⟨by first|rfl|(simp [errW_none,errW_some] <;> rfl)|(simp only [← hji10,← hji11];first|rfl|(simp [errW_none,errW_some] <;> rfl))|(simp [*,errW_none,errW_some] <;> rfl),by repeat first|(with_reducible first|exact HB.out|apply zA|apply zN|apply z1|refine zS ?_ GE101.out|refine zS ?_ GE102.out)|exact HB.out⟩
  ·rw [if_neg c9] at H
   have c9b0:(a0_0 == 1) = false:=beq_eq_false_iff_ne.mpr c9
   have c9b1:(a0_0 != 1) = true:=bne_iff_ne.mpr c9
   by_cases c18:a0_0 = 2
   ·rw [if_pos c18] at H
    have c18b0:(a0_0 == 2) = true:=beq_iff_eq.mpr c18
    have c18b1:(a0_0 != 2) = false:=bne_eq_false_iff_eq.mpr c18
    clear c18
    obtain rfl:=Option.some.inj H
    go_enter Tryz.func142,Tryz.ntmps142
    go_wp2_with (first|((with_reducible refine gate_dst (N:=1) rfl ?_);refine box_event (by rfl) (N:=1) (by rfl) (cs:=#[.int .i64 a0_0, .int .i64 a0_1, .int .i64 a0_2, .string a0_3]) (t:=28) Da ?_;intro gb101 hg w19 hbox hb;have BK101:=z_ (hbox);have GW101:=z_ ((Dh:w.heap.size ≤ gb101));have GE101:=z_ ((Dh:w.heap.size ≤ gb101));replace HB:=z_ (below_step Fe hb);clear hb hbox hg;obtain ⟨_,_,_,_,_,_,_,_⟩:=Bj BK101.out)|((with_reducible refine gate_dst (N:=3) rfl ?_);refine box_event (by rfl) (N:=3) (by rfl) (cs:=#[.int .i64 0, .int .i64 0, .int .i64 0, .string (⟨#[]⟩:ByteArray)]) (t:=28) Da ?_;intro gb102 hg w21 hbox hb;have BK102:=z_ (hbox);have GW102:=z_ ((Do:w.heap.size ≤ gb102));have GE102:=z_ ((Do:w.heap.size ≤ gb102));replace HB:=z_ (below_step Fg hb);have NB101_102:=z_ ((K6:gb101 ≠ gb102));have NB102_101:=z_ ((K5:gb102 ≠ gb101));replace BK101:=z_ (zk BK101.out hb);clear hb hbox hg;have hnb22:=NB102_101.out;have hnc22:=NB101_102.out;obtain ⟨_,_,_,_,_,_,_,_⟩:=Bj BK102.out;obtain ⟨_,_,_,_,_,_,_,_⟩:=Bj BK101.out))
    go_ret
    exact ⟨by first|rfl|(simp [errW_none,errW_some] <;> rfl)|(simp [*,errW_none,errW_some] <;> rfl),by repeat first|(with_reducible first|exact HB.out|apply zA|apply zN|apply z1|refine zS ?_ GE101.out|refine zS ?_ GE102.out)|exact HB.out⟩
   ·rw [if_neg c18] at H
    have c18b0:(a0_0 == 2) = false:=beq_eq_false_iff_ne.mpr c18
    have c18b1:(a0_0 != 2) = true:=bne_iff_ne.mpr c18
    by_cases c25:a0_0 = 3
    ·rw [if_pos c25] at H
     have c25b0:(a0_0 == 3) = true:=beq_iff_eq.mpr c25
     have c25b1:(a0_0 != 3) = false:=bne_eq_false_iff_eq.mpr c25
     clear c25
     obtain ⟨ji26,hji26⟩:∃ j_:Int,(mx a0_2 0) = j_:=⟨_,rfl⟩
     replace H:(if a0_1 ≤ (-1000000000000000) then (some false) else (if a0_1 ≥ 1000000000000000 then (some false) else (if a0_2 > 0 then (if (Int.tmod a0_1 10) = 0 then (some false) else (some (a0_2 == (mn (ji26) 6) && (a0_3.toList == ([]:List UInt8))))) else (some (a0_2 == (mn (ji26) 6) && (a0_3.toList == ([]:List UInt8))))))) = some r:=by first|(rw [hji26] at H;exact H)|(simp only [hji26] at H ⊢;exact H)
     (try (have hji26l:0 ≤ ji26:=by (rw [← hji26];unfold mx;(repeat' split) <;> omega)))
     (try (have hji26m:0 ≤ ji26:=by omega))
     have hji26_:(if a0_2 < 0 then 0 else a0_2) = ji26:=hji26
     obtain ⟨ji27,hji27⟩:∃ j_:Int,(mn (ji26) 6) = j_:=⟨_,rfl⟩
     replace H:(if a0_1 ≤ (-1000000000000000) then (some false) else (if a0_1 ≥ 1000000000000000 then (some false) else (if a0_2 > 0 then (if (Int.tmod a0_1 10) = 0 then (some false) else (some (a0_2 == (ji27) && (a0_3.toList == ([]:List UInt8))))) else (some (a0_2 == (ji27) && (a0_3.toList == ([]:List UInt8))))))) = some r:=by first|(rw [hji27] at H;exact H)|(simp only [hji27] at H ⊢;exact H)
     have hji27_:(if 6 < (ji26) then 6 else (ji26)) = ji27:=hji27
     by_cases c28:a0_1 ≤ (-1000000000000000)
     ·rw [if_pos c28] at H
      have c28b0:decide (a0_1 ≤ (-1000000000000000)) = true:=decide_eq_true c28
      clear c28
      obtain rfl:=Option.some.inj H
      go_enter Tryz.func142,Tryz.ntmps142
      try go_wp2_with (first|((with_reducible refine gate_dst (N:=1) rfl ?_);refine box_event (by rfl) (N:=1) (by rfl) (cs:=#[.int .i64 a0_0, .int .i64 a0_1, .int .i64 a0_2, .string a0_3]) (t:=28) Da ?_;intro gb101 hg w29 hbox hb;have BK101:=z_ (hbox);have GW101:=z_ ((Dh:w.heap.size ≤ gb101));have GE101:=z_ ((Dh:w.heap.size ≤ gb101));replace HB:=z_ (below_step Fe hb);clear hb hbox hg;obtain ⟨_,_,_,_,_,_,_,_⟩:=Bj BK101.out)|((with_reducible refine gate_dst (N:=3) rfl ?_);refine box_event (by rfl) (N:=3) (by rfl) (cs:=#[.int .i64 0, .int .i64 0, .int .i64 0, .string (⟨#[]⟩:ByteArray)]) (t:=28) Da ?_;intro gb102 hg w31 hbox hb;have BK102:=z_ (hbox);have GW102:=z_ ((Do:w.heap.size ≤ gb102));have GE102:=z_ ((Do:w.heap.size ≤ gb102));replace HB:=z_ (below_step Fg hb);have NB101_102:=z_ ((K6:gb101 ≠ gb102));have NB102_101:=z_ ((K5:gb102 ≠ gb101));replace BK101:=z_ (zk BK101.out hb);clear hb hbox hg;have hnb32:=NB102_101.out;have hnc32:=NB101_102.out;obtain ⟨_,_,_,_,_,_,_,_⟩:=Bj BK102.out;obtain ⟨_,_,_,_,_,_,_,_⟩:=Bj BK101.out))
      have n0_:Aside0 (((((w31.setCell ⟨gb102,0,none⟩ (.int .i64 a0_0)).setCell ⟨gb102,1,none⟩ (.int .i64 0)).setCell ⟨gb102,2,none⟩ (.int .i64 0)).setCell ⟨gb102,3,none⟩ (.string (⟨#[]⟩:ByteArray))).heap[gb101]? = some (.cells #[.int .i64 a0_0, .int .i64 a0_1, .int .i64 a0_2, .string a0_3] 28 (0,0))):=⟨by (with_reducible repeat first|apply Ad|apply Ac|apply Ae);refine Bd ?_ NB101_102.out _;(with_reducible repeat first|apply Ad|apply Ac|apply Ae);refine Bd ?_ NB101_102.out _;(with_reducible repeat first|apply Ad|apply Ac|apply Ae);refine Bd ?_ NB101_102.out _;(with_reducible repeat first|apply Ad|apply Ac|apply Ae);refine Bd ?_ NB101_102.out _;(with_reducible repeat first|apply Ad|apply Ac|apply Ae);exact BK101.out⟩
      have n1_:Aside0 (((((w31.setCell ⟨gb102,0,none⟩ (.int .i64 a0_0)).setCell ⟨gb102,1,none⟩ (.int .i64 0)).setCell ⟨gb102,2,none⟩ (.int .i64 0)).setCell ⟨gb102,3,none⟩ (.string (⟨#[]⟩:ByteArray))).heap[gb102]? = some (.cells #[.int .i64 a0_0, .int .i64 0, .int .i64 0, .string (⟨#[]⟩:ByteArray)] 28 (0,0))):=⟨by (with_reducible repeat first|apply Ad|apply Ac|apply Ae);refine Az (cs:=#[.int .i64 a0_0, .int .i64 0, .int .i64 0, .string (⟨#[]⟩:ByteArray)]) ?_ 3 _ rfl;(with_reducible repeat first|apply Ad|apply Ac|apply Ae);refine Az (cs:=#[.int .i64 a0_0, .int .i64 0, .int .i64 0, .string (⟨#[]⟩:ByteArray)]) ?_ 2 _ rfl;(with_reducible repeat first|apply Ad|apply Ac|apply Ae);refine Az (cs:=#[.int .i64 a0_0, .int .i64 0, .int .i64 0, .string (⟨#[]⟩:ByteArray)]) ?_ 1 _ rfl;(with_reducible repeat first|apply Ad|apply Ac|apply Ae);refine Az (cs:=#[.int .i64 0, .int .i64 0, .int .i64 0, .string (⟨#[]⟩:ByteArray)]) ?_ 0 _ rfl;(with_reducible repeat first|apply Ad|apply Ac|apply Ae);exact BK102.out⟩
      have n2_:Aside0 (Below w.heap.size w ((((w31.setCell ⟨gb102,0,none⟩ (.int .i64 a0_0)).setCell ⟨gb102,1,none⟩ (.int .i64 0)).setCell ⟨gb102,2,none⟩ (.int .i64 0)).setCell ⟨gb102,3,none⟩ (.string (⟨#[]⟩:ByteArray)))):=⟨by repeat first|(with_reducible first|exact HB.out|apply zA|apply zN|apply z1|refine zS ?_ GE101.out|refine zS ?_ GE102.out)|exact HB.out⟩
      (try clear BK101)
      (try clear BK102)
      (try clear HB)
      generalize ((((w31.setCell ⟨gb102,0,none⟩ (.int .i64 a0_0)).setCell ⟨gb102,1,none⟩ (.int .i64 0)).setCell ⟨gb102,2,none⟩ (.int .i64 0)).setCell ⟨gb102,3,none⟩ (.string (⟨#[]⟩:ByteArray))) = w35 at n0_ n1_ n2_ ⊢
      have BK101:=n0_
      have BK102:=n1_
      have HB:=n2_
      clear n0_ n1_ n2_
      have n0_:=z_ (Ac BK101.out)
      have n1_:=z_ (Ac BK102.out)
      have n2_:=z_ (z1 HB.out)
      clear BK101
      clear BK102
      clear HB
      have BK101:=n0_
      have BK102:=n1_
      have HB:=n2_
      clear n0_ n1_ n2_
      refine start_ (n:=10) (S:=fun w'=>w'.cell? ⟨gb101,0,none⟩ = some (.int .i64 a0_0) ∧ w'.cell? ⟨gb101,1,none⟩ = some (.int .i64 a0_1) ∧ w'.cell? ⟨gb101,2,none⟩ = some (.int .i64 a0_2) ∧ w'.cell? ⟨gb101,3,none⟩ = some (.string a0_3)) (ds:=[]) #[false,false,false,false,false,false,false,false,false,false] (by kernel_rfl) rfl rfl ⟨(Ba BK101.out 0).trans rfl,(Ba BK101.out 1).trans rfl,(Ba BK101.out 2).trans rfl,(Ba BK101.out 3).trans rfl⟩ (fun hHeld=>?_);refine with_tabW val_Right.tab10 val_Right.bits10 (fun HT_ HW_=>?_)
      generalize w35.drew = w36 at BK101 BK102 HB hHeld ⊢
      refine pure_ (i:=0) (N:=some 25) (v:=?_) (a':=?_) #[true,false,false,false,false,false,false,false,false,false] rfl rfl (any_of HT_.out (by kernel_rfl)) (fun _ _ _ h=>h) (Or.inl ⟨by rfl,?_⟩) ?_ ?_
      rotate_left
      ·intro w'
       go_simp
       with_reducible rfl
      rotate_left
      ·simp only [Act.put,List.setIfInBounds_toArray,List.set_cons_zero,List.set_cons_succ,i64_w,i32_w]
       rfl
      refine pure_ (i:=2) (N:=some 27) (v:=?_) (a':=?_) #[true,false,true,false,false,false,false,false,false,false] rfl rfl (any_of HT_.out (by kernel_rfl)) (fun _ _ _ h=>h) (Or.inl ⟨by rfl,?_⟩) ?_ ?_
      rotate_left
      ·intro w'
       go_simp
       with_reducible rfl
      rotate_left
      ·simp only [Act.put,List.setIfInBounds_toArray,List.set_cons_zero,List.set_cons_succ,i64_w,i32_w]
       rfl
      refine take_ (i:=1) (N:=some 26) (v:=?_) (a':=?_) #[true,true,true,false,false,false,false,false,false,false] rfl rfl (take_ofW HT_.out HW_.out (by kernel_rfl)) (fun _ _ _ h=>h) (Or.inl ⟨by rfl,?_⟩) hHeld ?_ ?_
      rotate_left
      ·rintro w' ⟨s0,s1,s2,s3⟩
       go_simp
       with_reducible rfl
      rotate_left
      ·simp only [Act.put,List.setIfInBounds_toArray,List.set_cons_zero,List.set_cons_succ,i64_w,i32_w]
       rfl
      refine pure_ (i:=6) (N:=some 31) (v:=?_) (a':=?_) #[true,true,true,false,false,false,true,false,false,false] rfl rfl (any_of HT_.out (by kernel_rfl)) (fun _ _ _ h=>h) (Or.inl ⟨by rfl,?_⟩) ?_ ?_
      rotate_left
      ·intro w'
       go_simp
       with_reducible rfl
      rotate_left
      ·simp only [Act.put,List.setIfInBounds_toArray,List.set_cons_zero,List.set_cons_succ,i64_w,i32_w]
       rfl
      refine take_ (i:=3) (N:=some 28) (v:=?_) (a':=?_) #[true,true,true,true,false,false,true,false,false,false] rfl rfl (take_ofW HT_.out HW_.out (by kernel_rfl)) (fun _ _ _ h=>h) (Or.inl ⟨by rfl,?_⟩) hHeld ?_ ?_
      rotate_left
      ·rintro w' ⟨s0,s1,s2,s3⟩
       go_simp
       with_reducible rfl
      rotate_left
      ·simp only [Act.put,List.setIfInBounds_toArray,List.set_cons_zero,List.set_cons_succ,i64_w,i32_w]
       rfl
      refine pure_ (i:=4) (N:=some 29) (v:=?_) (a':=?_) #[true,true,true,true,true,false,true,false,false,false] rfl rfl (any_of HT_.out (by kernel_rfl)) (fun _ _ _ h=>h) (Or.inl ⟨by rfl,?_⟩) ?_ ?_
      rotate_left
      ·intro w'
       go_simp
       with_reducible rfl
      rotate_left
      ·simp only [Act.put,List.setIfInBounds_toArray,List.set_cons_zero,List.set_cons_succ,i64_w,i32_w]
       rfl
      refine pure_ (i:=5) (N:=some 30) (v:=?_) (a':=?_) #[true,true,true,true,true,true,true,false,false,false] rfl rfl (any_of HT_.out (by kernel_rfl)) (fun _ _ _ h=>h) (Or.inl ⟨by rfl,?_⟩) ?_ ?_
      rotate_left
      ·intro w'
       go_simp
       with_reducible rfl
      rotate_left
      ·simp only [Act.put,List.setIfInBounds_toArray,List.set_cons_zero,List.set_cons_succ,i64_w,i32_w]
       rfl
      refine one_ (i:=7) (N:=none) #[true,true,true,true,true,true,true,true,false,false] rfl rfl (one_of HT_.out (by kernel_rfl)) (by decide) (fun K hK=>?_)
      have hs37:w36.cell? ⟨gb102,1,none⟩ = some (.int .i64 0):=(Ba BK102.out 1).trans rfl
      have hfs37:=B2 BK102.out 1
      have hns37_0:=NB101_102.out
      have hms37_0:=NB102_101.out
      refine skip_ (w1:=?_) (by rfl) rfl ?_ ?_
      rotate_left
      ·go_simp
       rfl
      refine hK.out _ _ ⟨((cell_far (p:=⟨gb102,_,none⟩) NB101_102.out _).trans (hHeld.1)),((cell_far (p:=⟨gb102,_,none⟩) NB101_102.out _).trans (hHeld.2.1)),((cell_far (p:=⟨gb102,_,none⟩) NB101_102.out _).trans (hHeld.2.2.1)),((cell_far (p:=⟨gb102,_,none⟩) NB101_102.out _).trans (hHeld.2.2.2))⟩ (fun hHeld=>?_)
      clear hK K
      refine pure_ (i:=8) (N:=some 32) (v:=?_) (a':=?_) #[true,true,true,true,true,true,true,true,true,false] rfl rfl (any_of HT_.out (by kernel_rfl)) (fun _ _ _ h=>h) (Or.inl ⟨by rfl,?_⟩) ?_ ?_
      rotate_left
      ·intro w'
       go_simp
       with_reducible rfl
      rotate_left
      ·simp only [Act.put,List.setIfInBounds_toArray,List.set_cons_zero,List.set_cons_succ,i64_w,i32_w]
       rfl
      refine one_ (i:=9) (N:=none) #[true,true,true,true,true,true,true,true,true,true] rfl rfl (one_of HT_.out (by kernel_rfl)) (by decide) (fun K hK=>?_)
      have hs38:w36.cell? ⟨gb102,2,none⟩ = some (.int .i64 0):=(Ba BK102.out 2).trans rfl
      have hfs38:=B2 BK102.out 2
      have hns38_0:=NB101_102.out
      have hms38_0:=NB102_101.out
      refine skip_ (w1:=?_) (by rfl) rfl ?_ ?_
      rotate_left
      ·go_simp
       rfl
      refine hK.out _ _ ⟨((cell_far (p:=⟨gb102,_,none⟩) NB101_102.out _).trans (hHeld.1)),((cell_far (p:=⟨gb102,_,none⟩) NB101_102.out _).trans (hHeld.2.1)),((cell_far (p:=⟨gb102,_,none⟩) NB101_102.out _).trans (hHeld.2.2.1)),((cell_far (p:=⟨gb102,_,none⟩) NB101_102.out _).trans (hHeld.2.2.2))⟩ (fun hHeld=>?_)
      clear hK K
      refine done_ (done_of HT_.out (by kernel_rfl)) ?_
      obtain ⟨_,_,_,_,_,_,_,_⟩:=Bj BK101.out
      try go_wp2
      go_ret
      exact ⟨by first|rfl|(simp [errW_none,errW_some] <;> rfl)|(simp only [← hji26,← hji27];first|rfl|(simp [errW_none,errW_some] <;> rfl))|(simp [*,errW_none,errW_some] <;> rfl),by repeat first|(with_reducible first|exact HB.out|apply zA|apply zN|apply z1|refine zS ?_ GE101.out|refine zS ?_ GE102.out)|exact HB.out⟩
     ·rw [if_neg c28] at H
      have c28b0:decide (a0_1 ≤ (-1000000000000000)) = false:=decide_eq_false c28
      clear c28
      by_cases c40:a0_1 ≥ 1000000000000000
      ·rw [if_pos c40] at H
       have c40b0:decide (1000000000000000 ≤ a0_1) = true:=decide_eq_true c40
       clear c40
       obtain rfl:=Option.some.inj H
       go_enter Tryz.func142,Tryz.ntmps142
       try go_wp2_with (first|((with_reducible refine gate_dst (N:=1) rfl ?_);refine box_event (by rfl) (N:=1) (by rfl) (cs:=#[.int .i64 a0_0, .int .i64 a0_1, .int .i64 a0_2, .string a0_3]) (t:=28) Da ?_;intro gb101 hg w41 hbox hb;have BK101:=z_ (hbox);have GW101:=z_ ((Dh:w.heap.size ≤ gb101));have GE101:=z_ ((Dh:w.heap.size ≤ gb101));replace HB:=z_ (below_step Fe hb);clear hb hbox hg;obtain ⟨_,_,_,_,_,_,_,_⟩:=Bj BK101.out)|((with_reducible refine gate_dst (N:=3) rfl ?_);refine box_event (by rfl) (N:=3) (by rfl) (cs:=#[.int .i64 0, .int .i64 0, .int .i64 0, .string (⟨#[]⟩:ByteArray)]) (t:=28) Da ?_;intro gb102 hg w43 hbox hb;have BK102:=z_ (hbox);have GW102:=z_ ((Do:w.heap.size ≤ gb102));have GE102:=z_ ((Do:w.heap.size ≤ gb102));replace HB:=z_ (below_step Fg hb);have NB101_102:=z_ ((K6:gb101 ≠ gb102));have NB102_101:=z_ ((K5:gb102 ≠ gb101));replace BK101:=z_ (zk BK101.out hb);clear hb hbox hg;have hnb44:=NB102_101.out;have hnc44:=NB101_102.out;obtain ⟨_,_,_,_,_,_,_,_⟩:=Bj BK102.out;obtain ⟨_,_,_,_,_,_,_,_⟩:=Bj BK101.out))
       have n0_:Aside0 (((((w43.setCell ⟨gb102,0,none⟩ (.int .i64 a0_0)).setCell ⟨gb102,1,none⟩ (.int .i64 0)).setCell ⟨gb102,2,none⟩ (.int .i64 0)).setCell ⟨gb102,3,none⟩ (.string (⟨#[]⟩:ByteArray))).heap[gb101]? = some (.cells #[.int .i64 a0_0, .int .i64 a0_1, .int .i64 a0_2, .string a0_3] 28 (0,0))):=⟨by (with_reducible repeat first|apply Ad|apply Ac|apply Ae);refine Bd ?_ NB101_102.out _;(with_reducible repeat first|apply Ad|apply Ac|apply Ae);refine Bd ?_ NB101_102.out _;(with_reducible repeat first|apply Ad|apply Ac|apply Ae);refine Bd ?_ NB101_102.out _;(with_reducible repeat first|apply Ad|apply Ac|apply Ae);refine Bd ?_ NB101_102.out _;(with_reducible repeat first|apply Ad|apply Ac|apply Ae);exact BK101.out⟩
       have n1_:Aside0 (((((w43.setCell ⟨gb102,0,none⟩ (.int .i64 a0_0)).setCell ⟨gb102,1,none⟩ (.int .i64 0)).setCell ⟨gb102,2,none⟩ (.int .i64 0)).setCell ⟨gb102,3,none⟩ (.string (⟨#[]⟩:ByteArray))).heap[gb102]? = some (.cells #[.int .i64 a0_0, .int .i64 0, .int .i64 0, .string (⟨#[]⟩:ByteArray)] 28 (0,0))):=⟨by (with_reducible repeat first|apply Ad|apply Ac|apply Ae);refine Az (cs:=#[.int .i64 a0_0, .int .i64 0, .int .i64 0, .string (⟨#[]⟩:ByteArray)]) ?_ 3 _ rfl;(with_reducible repeat first|apply Ad|apply Ac|apply Ae);refine Az (cs:=#[.int .i64 a0_0, .int .i64 0, .int .i64 0, .string (⟨#[]⟩:ByteArray)]) ?_ 2 _ rfl;(with_reducible repeat first|apply Ad|apply Ac|apply Ae);refine Az (cs:=#[.int .i64 a0_0, .int .i64 0, .int .i64 0, .string (⟨#[]⟩:ByteArray)]) ?_ 1 _ rfl;(with_reducible repeat first|apply Ad|apply Ac|apply Ae);refine Az (cs:=#[.int .i64 0, .int .i64 0, .int .i64 0, .string (⟨#[]⟩:ByteArray)]) ?_ 0 _ rfl;(with_reducible repeat first|apply Ad|apply Ac|apply Ae);exact BK102.out⟩
       have n2_:Aside0 (Below w.heap.size w ((((w43.setCell ⟨gb102,0,none⟩ (.int .i64 a0_0)).setCell ⟨gb102,1,none⟩ (.int .i64 0)).setCell ⟨gb102,2,none⟩ (.int .i64 0)).setCell ⟨gb102,3,none⟩ (.string (⟨#[]⟩:ByteArray)))):=⟨by repeat first|(with_reducible first|exact HB.out|apply zA|apply zN|apply z1|refine zS ?_ GE101.out|refine zS ?_ GE102.out)|exact HB.out⟩
       (try clear BK101)
       (try clear BK102)
       (try clear HB)
       generalize ((((w43.setCell ⟨gb102,0,none⟩ (.int .i64 a0_0)).setCell ⟨gb102,1,none⟩ (.int .i64 0)).setCell ⟨gb102,2,none⟩ (.int .i64 0)).setCell ⟨gb102,3,none⟩ (.string (⟨#[]⟩:ByteArray))) = w47 at n0_ n1_ n2_ ⊢
       have BK101:=n0_
       have BK102:=n1_
       have HB:=n2_
       clear n0_ n1_ n2_
       have n0_:=z_ (Ac BK101.out)
       have n1_:=z_ (Ac BK102.out)
       have n2_:=z_ (z1 HB.out)
       clear BK101
       clear BK102
       clear HB
       have BK101:=n0_
       have BK102:=n1_
       have HB:=n2_
       clear n0_ n1_ n2_
       refine start_ (n:=10) (S:=fun w'=>w'.cell? ⟨gb101,0,none⟩ = some (.int .i64 a0_0) ∧ w'.cell? ⟨gb101,1,none⟩ = some (.int .i64 a0_1) ∧ w'.cell? ⟨gb101,2,none⟩ = some (.int .i64 a0_2) ∧ w'.cell? ⟨gb101,3,none⟩ = some (.string a0_3)) (ds:=[]) #[false,false,false,false,false,false,false,false,false,false] (by kernel_rfl) rfl rfl ⟨(Ba BK101.out 0).trans rfl,(Ba BK101.out 1).trans rfl,(Ba BK101.out 2).trans rfl,(Ba BK101.out 3).trans rfl⟩ (fun hHeld=>?_);refine with_tabW val_Right.tab10 val_Right.bits10 (fun HT_ HW_=>?_)
       generalize w47.drew = w48 at BK101 BK102 HB hHeld ⊢
       refine pure_ (i:=0) (N:=some 25) (v:=?_) (a':=?_) #[true,false,false,false,false,false,false,false,false,false] rfl rfl (any_of HT_.out (by kernel_rfl)) (fun _ _ _ h=>h) (Or.inl ⟨by rfl,?_⟩) ?_ ?_
       rotate_left
       ·intro w'
        go_simp
        with_reducible rfl
       rotate_left
       ·simp only [Act.put,List.setIfInBounds_toArray,List.set_cons_zero,List.set_cons_succ,i64_w,i32_w]
        rfl
       refine pure_ (i:=2) (N:=some 27) (v:=?_) (a':=?_) #[true,false,true,false,false,false,false,false,false,false] rfl rfl (any_of HT_.out (by kernel_rfl)) (fun _ _ _ h=>h) (Or.inl ⟨by rfl,?_⟩) ?_ ?_
       rotate_left
       ·intro w'
        go_simp
        with_reducible rfl
       rotate_left
       ·simp only [Act.put,List.setIfInBounds_toArray,List.set_cons_zero,List.set_cons_succ,i64_w,i32_w]
        rfl
       refine take_ (i:=1) (N:=some 26) (v:=?_) (a':=?_) #[true,true,true,false,false,false,false,false,false,false] rfl rfl (take_ofW HT_.out HW_.out (by kernel_rfl)) (fun _ _ _ h=>h) (Or.inl ⟨by rfl,?_⟩) hHeld ?_ ?_
       rotate_left
       ·rintro w' ⟨s0,s1,s2,s3⟩
        go_simp
        with_reducible rfl
       rotate_left
       ·simp only [Act.put,List.setIfInBounds_toArray,List.set_cons_zero,List.set_cons_succ,i64_w,i32_w]
        rfl
       refine pure_ (i:=6) (N:=some 31) (v:=?_) (a':=?_) #[true,true,true,false,false,false,true,false,false,false] rfl rfl (any_of HT_.out (by kernel_rfl)) (fun _ _ _ h=>h) (Or.inl ⟨by rfl,?_⟩) ?_ ?_
       rotate_left
       ·intro w'
        go_simp
        with_reducible rfl
       rotate_left
       ·simp only [Act.put,List.setIfInBounds_toArray,List.set_cons_zero,List.set_cons_succ,i64_w,i32_w]
        rfl
       refine take_ (i:=3) (N:=some 28) (v:=?_) (a':=?_) #[true,true,true,true,false,false,true,false,false,false] rfl rfl (take_ofW HT_.out HW_.out (by kernel_rfl)) (fun _ _ _ h=>h) (Or.inl ⟨by rfl,?_⟩) hHeld ?_ ?_
       rotate_left
       ·rintro w' ⟨s0,s1,s2,s3⟩
        go_simp
        with_reducible rfl
       rotate_left
       ·simp only [Act.put,List.setIfInBounds_toArray,List.set_cons_zero,List.set_cons_succ,i64_w,i32_w]
        rfl
       refine pure_ (i:=4) (N:=some 29) (v:=?_) (a':=?_) #[true,true,true,true,true,false,true,false,false,false] rfl rfl (any_of HT_.out (by kernel_rfl)) (fun _ _ _ h=>h) (Or.inl ⟨by rfl,?_⟩) ?_ ?_
       rotate_left
       ·intro w'
        go_simp
        with_reducible rfl
       rotate_left
       ·simp only [Act.put,List.setIfInBounds_toArray,List.set_cons_zero,List.set_cons_succ,i64_w,i32_w]
        rfl
       refine pure_ (i:=5) (N:=some 30) (v:=?_) (a':=?_) #[true,true,true,true,true,true,true,false,false,false] rfl rfl (any_of HT_.out (by kernel_rfl)) (fun _ _ _ h=>h) (Or.inl ⟨by rfl,?_⟩) ?_ ?_
       rotate_left
       ·intro w'
        go_simp
        with_reducible rfl
       rotate_left
       ·simp only [Act.put,List.setIfInBounds_toArray,List.set_cons_zero,List.set_cons_succ,i64_w,i32_w]
        rfl
       refine one_ (i:=7) (N:=none) #[true,true,true,true,true,true,true,true,false,false] rfl rfl (one_of HT_.out (by kernel_rfl)) (by decide) (fun K hK=>?_)
       have hs49:w48.cell? ⟨gb102,1,none⟩ = some (.int .i64 0):=(Ba BK102.out 1).trans rfl
       have hfs49:=B2 BK102.out 1
       have hns49_0:=NB101_102.out
       have hms49_0:=NB102_101.out
       refine skip_ (w1:=?_) (by rfl) rfl ?_ ?_
       rotate_left
       ·go_simp
        rfl
       refine hK.out _ _ ⟨((cell_far (p:=⟨gb102,_,none⟩) NB101_102.out _).trans (hHeld.1)),((cell_far (p:=⟨gb102,_,none⟩) NB101_102.out _).trans (hHeld.2.1)),((cell_far (p:=⟨gb102,_,none⟩) NB101_102.out _).trans (hHeld.2.2.1)),((cell_far (p:=⟨gb102,_,none⟩) NB101_102.out _).trans (hHeld.2.2.2))⟩ (fun hHeld=>?_)
       clear hK K
       refine pure_ (i:=8) (N:=some 32) (v:=?_) (a':=?_) #[true,true,true,true,true,true,true,true,true,false] rfl rfl (any_of HT_.out (by kernel_rfl)) (fun _ _ _ h=>h) (Or.inl ⟨by rfl,?_⟩) ?_ ?_
       rotate_left
       ·intro w'
        go_simp
        with_reducible rfl
       rotate_left
       ·simp only [Act.put,List.setIfInBounds_toArray,List.set_cons_zero,List.set_cons_succ,i64_w,i32_w]
        rfl
       refine one_ (i:=9) (N:=none) #[true,true,true,true,true,true,true,true,true,true] rfl rfl (one_of HT_.out (by kernel_rfl)) (by decide) (fun K hK=>?_)
       have hs50:w48.cell? ⟨gb102,2,none⟩ = some (.int .i64 0):=(Ba BK102.out 2).trans rfl
       have hfs50:=B2 BK102.out 2
       have hns50_0:=NB101_102.out
       have hms50_0:=NB102_101.out
       refine skip_ (w1:=?_) (by rfl) rfl ?_ ?_
       rotate_left
       ·go_simp
        rfl
       refine hK.out _ _ ⟨((cell_far (p:=⟨gb102,_,none⟩) NB101_102.out _).trans (hHeld.1)),((cell_far (p:=⟨gb102,_,none⟩) NB101_102.out _).trans (hHeld.2.1)),((cell_far (p:=⟨gb102,_,none⟩) NB101_102.out _).trans (hHeld.2.2.1)),((cell_far (p:=⟨gb102,_,none⟩) NB101_102.out _).trans (hHeld.2.2.2))⟩ (fun hHeld=>?_)
       clear hK K
       refine done_ (done_of HT_.out (by kernel_rfl)) ?_
       obtain ⟨_,_,_,_,_,_,_,_⟩:=Bj BK101.out
       try go_wp2
       go_ret
       exact ⟨by first|rfl|(simp [errW_none,errW_some] <;> rfl)|(simp only [← hji26,← hji27];first|rfl|(simp [errW_none,errW_some] <;> rfl))|(simp [*,errW_none,errW_some] <;> rfl),by repeat first|(with_reducible first|exact HB.out|apply zA|apply zN|apply z1|refine zS ?_ GE101.out|refine zS ?_ GE102.out)|exact HB.out⟩
      ·rw [if_neg c40] at H
       have c40b0:decide (1000000000000000 ≤ a0_1) = false:=decide_eq_false c40
       clear c40
       by_cases c52:a0_2 > 0
       ·rw [if_pos c52] at H
        have c52b0:decide (0 < a0_2) = true:=decide_eq_true c52
        clear c52
        by_cases c53:(Int.tmod a0_1 10) = 0
        ·rw [if_pos c53] at H
         have c53b0:((Int.tmod a0_1 10) == 0) = true:=beq_iff_eq.mpr c53
         have c53b1:((Int.tmod a0_1 10) != 0) = false:=bne_eq_false_iff_eq.mpr c53
         clear c53
         obtain rfl:=Option.some.inj H
         go_enter Tryz.func142,Tryz.ntmps142
         try go_wp2_with (first|((with_reducible refine gate_dst (N:=1) rfl ?_);refine box_event (by rfl) (N:=1) (by rfl) (cs:=#[.int .i64 a0_0, .int .i64 a0_1, .int .i64 a0_2, .string a0_3]) (t:=28) Da ?_;intro gb101 hg w54 hbox hb;have BK101:=z_ (hbox);have GW101:=z_ ((Dh:w.heap.size ≤ gb101));have GE101:=z_ ((Dh:w.heap.size ≤ gb101));replace HB:=z_ (below_step Fe hb);clear hb hbox hg;obtain ⟨_,_,_,_,_,_,_,_⟩:=Bj BK101.out)|((with_reducible refine gate_dst (N:=3) rfl ?_);refine box_event (by rfl) (N:=3) (by rfl) (cs:=#[.int .i64 0, .int .i64 0, .int .i64 0, .string (⟨#[]⟩:ByteArray)]) (t:=28) Da ?_;intro gb102 hg w56 hbox hb;have BK102:=z_ (hbox);have GW102:=z_ ((Do:w.heap.size ≤ gb102));have GE102:=z_ ((Do:w.heap.size ≤ gb102));replace HB:=z_ (below_step Fg hb);have NB101_102:=z_ ((K6:gb101 ≠ gb102));have NB102_101:=z_ ((K5:gb102 ≠ gb101));replace BK101:=z_ (zk BK101.out hb);clear hb hbox hg;have hnb57:=NB102_101.out;have hnc57:=NB101_102.out;obtain ⟨_,_,_,_,_,_,_,_⟩:=Bj BK102.out;obtain ⟨_,_,_,_,_,_,_,_⟩:=Bj BK101.out))
         have n0_:Aside0 (((((w56.setCell ⟨gb102,0,none⟩ (.int .i64 a0_0)).setCell ⟨gb102,1,none⟩ (.int .i64 0)).setCell ⟨gb102,2,none⟩ (.int .i64 0)).setCell ⟨gb102,3,none⟩ (.string (⟨#[]⟩:ByteArray))).heap[gb101]? = some (.cells #[.int .i64 a0_0, .int .i64 a0_1, .int .i64 a0_2, .string a0_3] 28 (0,0))):=⟨by (with_reducible repeat first|apply Ad|apply Ac|apply Ae);refine Bd ?_ NB101_102.out _;(with_reducible repeat first|apply Ad|apply Ac|apply Ae);refine Bd ?_ NB101_102.out _;(with_reducible repeat first|apply Ad|apply Ac|apply Ae);refine Bd ?_ NB101_102.out _;(with_reducible repeat first|apply Ad|apply Ac|apply Ae);refine Bd ?_ NB101_102.out _;(with_reducible repeat first|apply Ad|apply Ac|apply Ae);exact BK101.out⟩
         have n1_:Aside0 (((((w56.setCell ⟨gb102,0,none⟩ (.int .i64 a0_0)).setCell ⟨gb102,1,none⟩ (.int .i64 0)).setCell ⟨gb102,2,none⟩ (.int .i64 0)).setCell ⟨gb102,3,none⟩ (.string (⟨#[]⟩:ByteArray))).heap[gb102]? = some (.cells #[.int .i64 a0_0, .int .i64 0, .int .i64 0, .string (⟨#[]⟩:ByteArray)] 28 (0,0))):=⟨by (with_reducible repeat first|apply Ad|apply Ac|apply Ae);refine Az (cs:=#[.int .i64 a0_0, .int .i64 0, .int .i64 0, .string (⟨#[]⟩:ByteArray)]) ?_ 3 _ rfl;(with_reducible repeat first|apply Ad|apply Ac|apply Ae);refine Az (cs:=#[.int .i64 a0_0, .int .i64 0, .int .i64 0, .string (⟨#[]⟩:ByteArray)]) ?_ 2 _ rfl;(with_reducible repeat first|apply Ad|apply Ac|apply Ae);refine Az (cs:=#[.int .i64 a0_0, .int .i64 0, .int .i64 0, .string (⟨#[]⟩:ByteArray)]) ?_ 1 _ rfl;(with_reducible repeat first|apply Ad|apply Ac|apply Ae);refine Az (cs:=#[.int .i64 0, .int .i64 0, .int .i64 0, .string (⟨#[]⟩:ByteArray)]) ?_ 0 _ rfl;(with_reducible repeat first|apply Ad|apply Ac|apply Ae);exact BK102.out⟩
         have n2_:Aside0 (Below w.heap.size w ((((w56.setCell ⟨gb102,0,none⟩ (.int .i64 a0_0)).setCell ⟨gb102,1,none⟩ (.int .i64 0)).setCell ⟨gb102,2,none⟩ (.int .i64 0)).setCell ⟨gb102,3,none⟩ (.string (⟨#[]⟩:ByteArray)))):=⟨by repeat first|(with_reducible first|exact HB.out|apply zA|apply zN|apply z1|refine zS ?_ GE101.out|refine zS ?_ GE102.out)|exact HB.out⟩
         (try clear BK101)
         (try clear BK102)
         (try clear HB)
         generalize ((((w56.setCell ⟨gb102,0,none⟩ (.int .i64 a0_0)).setCell ⟨gb102,1,none⟩ (.int .i64 0)).setCell ⟨gb102,2,none⟩ (.int .i64 0)).setCell ⟨gb102,3,none⟩ (.string (⟨#[]⟩:ByteArray))) = w60 at n0_ n1_ n2_ ⊢
         have BK101:=n0_
         have BK102:=n1_
         have HB:=n2_
         clear n0_ n1_ n2_
         have n0_:=z_ (Ac BK101.out)
         have n1_:=z_ (Ac BK102.out)
         have n2_:=z_ (z1 HB.out)
         clear BK101
         clear BK102
         clear HB
         have BK101:=n0_
         have BK102:=n1_
         have HB:=n2_
         clear n0_ n1_ n2_
         refine start_ (n:=10) (S:=fun w'=>w'.cell? ⟨gb101,0,none⟩ = some (.int .i64 a0_0) ∧ w'.cell? ⟨gb101,1,none⟩ = some (.int .i64 a0_1) ∧ w'.cell? ⟨gb101,2,none⟩ = some (.int .i64 a0_2) ∧ w'.cell? ⟨gb101,3,none⟩ = some (.string a0_3)) (ds:=[]) #[false,false,false,false,false,false,false,false,false,false] (by kernel_rfl) rfl rfl ⟨(Ba BK101.out 0).trans rfl,(Ba BK101.out 1).trans rfl,(Ba BK101.out 2).trans rfl,(Ba BK101.out 3).trans rfl⟩ (fun hHeld=>?_);refine with_tabW val_Right.tab10 val_Right.bits10 (fun HT_ HW_=>?_)
         generalize w60.drew = w61 at BK101 BK102 HB hHeld ⊢
         refine pure_ (i:=0) (N:=some 25) (v:=?_) (a':=?_) #[true,false,false,false,false,false,false,false,false,false] rfl rfl (any_of HT_.out (by kernel_rfl)) (fun _ _ _ h=>h) (Or.inl ⟨by rfl,?_⟩) ?_ ?_
         rotate_left
         ·intro w'
          go_simp
          with_reducible rfl
         rotate_left
         ·simp only [Act.put,List.setIfInBounds_toArray,List.set_cons_zero,List.set_cons_succ,i64_w,i32_w]
          rfl
         refine pure_ (i:=2) (N:=some 27) (v:=?_) (a':=?_) #[true,false,true,false,false,false,false,false,false,false] rfl rfl (any_of HT_.out (by kernel_rfl)) (fun _ _ _ h=>h) (Or.inl ⟨by rfl,?_⟩) ?_ ?_
         rotate_left
         ·intro w'
          go_simp
          with_reducible rfl
         rotate_left
         ·simp only [Act.put,List.setIfInBounds_toArray,List.set_cons_zero,List.set_cons_succ,i64_w,i32_w]
          rfl
         refine take_ (i:=1) (N:=some 26) (v:=?_) (a':=?_) #[true,true,true,false,false,false,false,false,false,false] rfl rfl (take_ofW HT_.out HW_.out (by kernel_rfl)) (fun _ _ _ h=>h) (Or.inl ⟨by rfl,?_⟩) hHeld ?_ ?_
         rotate_left
         ·rintro w' ⟨s0,s1,s2,s3⟩
          go_simp
          with_reducible rfl
         rotate_left
         ·simp only [Act.put,List.setIfInBounds_toArray,List.set_cons_zero,List.set_cons_succ,i64_w,i32_w]
          rfl
         refine pure_ (i:=6) (N:=some 31) (v:=?_) (a':=?_) #[true,true,true,false,false,false,true,false,false,false] rfl rfl (any_of HT_.out (by kernel_rfl)) (fun _ _ _ h=>h) (Or.inl ⟨by rfl,?_⟩) ?_ ?_
         rotate_left
         ·intro w'
          go_simp
          with_reducible rfl
         rotate_left
         ·simp only [Act.put,List.setIfInBounds_toArray,List.set_cons_zero,List.set_cons_succ,i64_w,i32_w]
          rfl
         refine take_ (i:=3) (N:=some 28) (v:=?_) (a':=?_) #[true,true,true,true,false,false,true,false,false,false] rfl rfl (take_ofW HT_.out HW_.out (by kernel_rfl)) (fun _ _ _ h=>h) (Or.inl ⟨by rfl,?_⟩) hHeld ?_ ?_
         rotate_left
         ·rintro w' ⟨s0,s1,s2,s3⟩
          go_simp
          with_reducible rfl
         rotate_left
         ·simp only [Act.put,List.setIfInBounds_toArray,List.set_cons_zero,List.set_cons_succ,i64_w,i32_w]
          rfl
         refine pure_ (i:=4) (N:=some 29) (v:=?_) (a':=?_) #[true,true,true,true,true,false,true,false,false,false] rfl rfl (any_of HT_.out (by kernel_rfl)) (fun _ _ _ h=>h) (Or.inl ⟨by rfl,?_⟩) ?_ ?_
         rotate_left
         ·intro w'
          go_simp
          with_reducible rfl
         rotate_left
         ·simp only [Act.put,List.setIfInBounds_toArray,List.set_cons_zero,List.set_cons_succ,i64_w,i32_w]
          rfl
         refine pure_ (i:=5) (N:=some 30) (v:=?_) (a':=?_) #[true,true,true,true,true,true,true,false,false,false] rfl rfl (any_of HT_.out (by kernel_rfl)) (fun _ _ _ h=>h) (Or.inl ⟨by rfl,?_⟩) ?_ ?_
         rotate_left
         ·intro w'
          go_simp
          with_reducible rfl
         rotate_left
         ·simp only [Act.put,List.setIfInBounds_toArray,List.set_cons_zero,List.set_cons_succ,i64_w,i32_w]
          rfl
         refine one_ (i:=7) (N:=none) #[true,true,true,true,true,true,true,true,false,false] rfl rfl (one_of HT_.out (by kernel_rfl)) (by decide) (fun K hK=>?_)
         have hs62:w61.cell? ⟨gb102,1,none⟩ = some (.int .i64 0):=(Ba BK102.out 1).trans rfl
         have hfs62:=B2 BK102.out 1
         have hns62_0:=NB101_102.out
         have hms62_0:=NB102_101.out
         refine skip_ (w1:=?_) (by rfl) rfl ?_ ?_
         rotate_left
         ·go_simp
          rfl
         refine hK.out _ _ ⟨((cell_far (p:=⟨gb102,_,none⟩) NB101_102.out _).trans (hHeld.1)),((cell_far (p:=⟨gb102,_,none⟩) NB101_102.out _).trans (hHeld.2.1)),((cell_far (p:=⟨gb102,_,none⟩) NB101_102.out _).trans (hHeld.2.2.1)),((cell_far (p:=⟨gb102,_,none⟩) NB101_102.out _).trans (hHeld.2.2.2))⟩ (fun hHeld=>?_)
         clear hK K
         refine pure_ (i:=8) (N:=some 32) (v:=?_) (a':=?_) #[true,true,true,true,true,true,true,true,true,false] rfl rfl (any_of HT_.out (by kernel_rfl)) (fun _ _ _ h=>h) (Or.inl ⟨by rfl,?_⟩) ?_ ?_
         rotate_left
         ·intro w'
          go_simp
          with_reducible rfl
         rotate_left
         ·simp only [Act.put,List.setIfInBounds_toArray,List.set_cons_zero,List.set_cons_succ,i64_w,i32_w]
          rfl
         refine one_ (i:=9) (N:=none) #[true,true,true,true,true,true,true,true,true,true] rfl rfl (one_of HT_.out (by kernel_rfl)) (by decide) (fun K hK=>?_)
         have hs63:w61.cell? ⟨gb102,2,none⟩ = some (.int .i64 0):=(Ba BK102.out 2).trans rfl
         have hfs63:=B2 BK102.out 2
         have hns63_0:=NB101_102.out
         have hms63_0:=NB102_101.out
         refine skip_ (w1:=?_) (by rfl) rfl ?_ ?_
         rotate_left
         ·go_simp
          rfl
         refine hK.out _ _ ⟨((cell_far (p:=⟨gb102,_,none⟩) NB101_102.out _).trans (hHeld.1)),((cell_far (p:=⟨gb102,_,none⟩) NB101_102.out _).trans (hHeld.2.1)),((cell_far (p:=⟨gb102,_,none⟩) NB101_102.out _).trans (hHeld.2.2.1)),((cell_far (p:=⟨gb102,_,none⟩) NB101_102.out _).trans (hHeld.2.2.2))⟩ (fun hHeld=>?_)
         clear hK K
         refine done_ (done_of HT_.out (by kernel_rfl)) ?_
         obtain ⟨_,_,_,_,_,_,_,_⟩:=Bj BK101.out
         try go_wp2
         go_ret
         exact ⟨by first|rfl|(simp [errW_none,errW_some] <;> rfl)|(simp only [← hji26,← hji27];first|rfl|(simp [errW_none,errW_some] <;> rfl))|(simp [*,errW_none,errW_some] <;> rfl),by repeat first|(with_reducible first|exact HB.out|apply zA|apply zN|apply z1|refine zS ?_ GE101.out|refine zS ?_ GE102.out)|exact HB.out⟩
        ·rw [if_neg c53] at H
         have c53b0:((Int.tmod a0_1 10) == 0) = false:=beq_eq_false_iff_ne.mpr c53
         have c53b1:((Int.tmod a0_1 10) != 0) = true:=bne_iff_ne.mpr c53
         obtain rfl:=Option.some.inj H
         go_enter Tryz.func142,Tryz.ntmps142
         try go_wp2_with (first|((with_reducible refine gate_dst (N:=1) rfl ?_);refine box_event (by rfl) (N:=1) (by rfl) (cs:=#[.int .i64 a0_0, .int .i64 a0_1, .int .i64 a0_2, .string a0_3]) (t:=28) Da ?_;intro gb101 hg w65 hbox hb;have BK101:=z_ (hbox);have GW101:=z_ ((Dh:w.heap.size ≤ gb101));have GE101:=z_ ((Dh:w.heap.size ≤ gb101));replace HB:=z_ (below_step Fe hb);clear hb hbox hg;obtain ⟨_,_,_,_,_,_,_,_⟩:=Bj BK101.out)|((with_reducible refine gate_dst (N:=3) rfl ?_);refine box_event (by rfl) (N:=3) (by rfl) (cs:=#[.int .i64 0, .int .i64 0, .int .i64 0, .string (⟨#[]⟩:ByteArray)]) (t:=28) Da ?_;intro gb102 hg w67 hbox hb;have BK102:=z_ (hbox);have GW102:=z_ ((Do:w.heap.size ≤ gb102));have GE102:=z_ ((Do:w.heap.size ≤ gb102));replace HB:=z_ (below_step Fg hb);have NB101_102:=z_ ((K6:gb101 ≠ gb102));have NB102_101:=z_ ((K5:gb102 ≠ gb101));replace BK101:=z_ (zk BK101.out hb);clear hb hbox hg;have hnb68:=NB102_101.out;have hnc68:=NB101_102.out;obtain ⟨_,_,_,_,_,_,_,_⟩:=Bj BK102.out;obtain ⟨_,_,_,_,_,_,_,_⟩:=Bj BK101.out))
         have n0_:Aside0 (((((w67.setCell ⟨gb102,0,none⟩ (.int .i64 a0_0)).setCell ⟨gb102,1,none⟩ (.int .i64 0)).setCell ⟨gb102,2,none⟩ (.int .i64 0)).setCell ⟨gb102,3,none⟩ (.string (⟨#[]⟩:ByteArray))).heap[gb101]? = some (.cells #[.int .i64 a0_0, .int .i64 a0_1, .int .i64 a0_2, .string a0_3] 28 (0,0))):=⟨by (with_reducible repeat first|apply Ad|apply Ac|apply Ae);refine Bd ?_ NB101_102.out _;(with_reducible repeat first|apply Ad|apply Ac|apply Ae);refine Bd ?_ NB101_102.out _;(with_reducible repeat first|apply Ad|apply Ac|apply Ae);refine Bd ?_ NB101_102.out _;(with_reducible repeat first|apply Ad|apply Ac|apply Ae);refine Bd ?_ NB101_102.out _;(with_reducible repeat first|apply Ad|apply Ac|apply Ae);exact BK101.out⟩
         have n1_:Aside0 (((((w67.setCell ⟨gb102,0,none⟩ (.int .i64 a0_0)).setCell ⟨gb102,1,none⟩ (.int .i64 0)).setCell ⟨gb102,2,none⟩ (.int .i64 0)).setCell ⟨gb102,3,none⟩ (.string (⟨#[]⟩:ByteArray))).heap[gb102]? = some (.cells #[.int .i64 a0_0, .int .i64 0, .int .i64 0, .string (⟨#[]⟩:ByteArray)] 28 (0,0))):=⟨by (with_reducible repeat first|apply Ad|apply Ac|apply Ae);refine Az (cs:=#[.int .i64 a0_0, .int .i64 0, .int .i64 0, .string (⟨#[]⟩:ByteArray)]) ?_ 3 _ rfl;(with_reducible repeat first|apply Ad|apply Ac|apply Ae);refine Az (cs:=#[.int .i64 a0_0, .int .i64 0, .int .i64 0, .string (⟨#[]⟩:ByteArray)]) ?_ 2 _ rfl;(with_reducible repeat first|apply Ad|apply Ac|apply Ae);refine Az (cs:=#[.int .i64 a0_0, .int .i64 0, .int .i64 0, .string (⟨#[]⟩:ByteArray)]) ?_ 1 _ rfl;(with_reducible repeat first|apply Ad|apply Ac|apply Ae);refine Az (cs:=#[.int .i64 0, .int .i64 0, .int .i64 0, .string (⟨#[]⟩:ByteArray)]) ?_ 0 _ rfl;(with_reducible repeat first|apply Ad|apply Ac|apply Ae);exact BK102.out⟩
         have n2_:Aside0 (Below w.heap.size w ((((w67.setCell ⟨gb102,0,none⟩ (.int .i64 a0_0)).setCell ⟨gb102,1,none⟩ (.int .i64 0)).setCell ⟨gb102,2,none⟩ (.int .i64 0)).setCell ⟨gb102,3,none⟩ (.string (⟨#[]⟩:ByteArray)))):=⟨by repeat first|(with_reducible first|exact HB.out|apply zA|apply zN|apply z1|refine zS ?_ GE101.out|refine zS ?_ GE102.out)|exact HB.out⟩
         (try clear BK101)
         (try clear BK102)
         (try clear HB)
         generalize ((((w67.setCell ⟨gb102,0,none⟩ (.int .i64 a0_0)).setCell ⟨gb102,1,none⟩ (.int .i64 0)).setCell ⟨gb102,2,none⟩ (.int .i64 0)).setCell ⟨gb102,3,none⟩ (.string (⟨#[]⟩:ByteArray))) = w71 at n0_ n1_ n2_ ⊢
         have BK101:=n0_
         have BK102:=n1_
         have HB:=n2_
         clear n0_ n1_ n2_
         have n0_:=z_ (Ac BK101.out)
         have n1_:=z_ (Ac BK102.out)
         have n2_:=z_ (z1 HB.out)
         clear BK101
         clear BK102
         clear HB
         have BK101:=n0_
         have BK102:=n1_
         have HB:=n2_
         clear n0_ n1_ n2_
         refine start_ (n:=10) (S:=fun w'=>w'.cell? ⟨gb101,0,none⟩ = some (.int .i64 a0_0) ∧ w'.cell? ⟨gb101,1,none⟩ = some (.int .i64 a0_1) ∧ w'.cell? ⟨gb101,2,none⟩ = some (.int .i64 a0_2) ∧ w'.cell? ⟨gb101,3,none⟩ = some (.string a0_3)) (ds:=[]) #[false,false,false,false,false,false,false,false,false,false] (by kernel_rfl) rfl rfl ⟨(Ba BK101.out 0).trans rfl,(Ba BK101.out 1).trans rfl,(Ba BK101.out 2).trans rfl,(Ba BK101.out 3).trans rfl⟩ (fun hHeld=>?_);refine with_tabW val_Right.tab10 val_Right.bits10 (fun HT_ HW_=>?_)
         generalize w71.drew = w72 at BK101 BK102 HB hHeld ⊢
         refine pure_ (i:=0) (N:=some 25) (v:=?_) (a':=?_) #[true,false,false,false,false,false,false,false,false,false] rfl rfl (any_of HT_.out (by kernel_rfl)) (fun _ _ _ h=>h) (Or.inl ⟨by rfl,?_⟩) ?_ ?_
         rotate_left
         ·intro w'
          go_simp
          with_reducible rfl
         rotate_left
         ·simp only [Act.put,List.setIfInBounds_toArray,List.set_cons_zero,List.set_cons_succ,i64_w,i32_w]
          rfl
         refine pure_ (i:=2) (N:=some 27) (v:=?_) (a':=?_) #[true,false,true,false,false,false,false,false,false,false] rfl rfl (any_of HT_.out (by kernel_rfl)) (fun _ _ _ h=>h) (Or.inl ⟨by rfl,?_⟩) ?_ ?_
         rotate_left
         ·intro w'
          go_simp
          with_reducible rfl
         rotate_left
         ·simp only [Act.put,List.setIfInBounds_toArray,List.set_cons_zero,List.set_cons_succ,i64_w,i32_w]
          rfl
         refine take_ (i:=1) (N:=some 26) (v:=?_) (a':=?_) #[true,true,true,false,false,false,false,false,false,false] rfl rfl (take_ofW HT_.out HW_.out (by kernel_rfl)) (fun _ _ _ h=>h) (Or.inl ⟨by rfl,?_⟩) hHeld ?_ ?_
         rotate_left
         ·rintro w' ⟨s0,s1,s2,s3⟩
          go_simp
          with_reducible rfl
         rotate_left
         ·simp only [Act.put,List.setIfInBounds_toArray,List.set_cons_zero,List.set_cons_succ,i64_w,i32_w]
          rfl
         refine pure_ (i:=6) (N:=some 31) (v:=?_) (a':=?_) #[true,true,true,false,false,false,true,false,false,false] rfl rfl (any_of HT_.out (by kernel_rfl)) (fun _ _ _ h=>h) (Or.inl ⟨by rfl,?_⟩) ?_ ?_
         rotate_left
         ·intro w'
          go_simp
          with_reducible rfl
         rotate_left
         ·simp only [Act.put,List.setIfInBounds_toArray,List.set_cons_zero,List.set_cons_succ,i64_w,i32_w]
          rfl
         refine take_ (i:=3) (N:=some 28) (v:=?_) (a':=?_) #[true,true,true,true,false,false,true,false,false,false] rfl rfl (take_ofW HT_.out HW_.out (by kernel_rfl)) (fun _ _ _ h=>h) (Or.inl ⟨by rfl,?_⟩) hHeld ?_ ?_
         rotate_left
         ·rintro w' ⟨s0,s1,s2,s3⟩
          go_simp
          with_reducible rfl
         rotate_left
         ·simp only [Act.put,List.setIfInBounds_toArray,List.set_cons_zero,List.set_cons_succ,i64_w,i32_w]
          rfl
         refine pure_ (i:=4) (N:=some 29) (v:=?_) (a':=?_) #[true,true,true,true,true,false,true,false,false,false] rfl rfl (any_of HT_.out (by kernel_rfl)) (fun _ _ _ h=>h) (Or.inl ⟨by rfl,?_⟩) ?_ ?_
         rotate_left
         ·intro w'
          go_simp
          with_reducible rfl
         rotate_left
         ·simp only [Act.put,List.setIfInBounds_toArray,List.set_cons_zero,List.set_cons_succ,i64_w,i32_w]
          rfl
         refine pure_ (i:=5) (N:=some 30) (v:=?_) (a':=?_) #[true,true,true,true,true,true,true,false,false,false] rfl rfl (any_of HT_.out (by kernel_rfl)) (fun _ _ _ h=>h) (Or.inl ⟨by rfl,?_⟩) ?_ ?_
         rotate_left
         ·intro w'
          go_simp
          with_reducible rfl
         rotate_left
         ·simp only [Act.put,List.setIfInBounds_toArray,List.set_cons_zero,List.set_cons_succ,i64_w,i32_w]
          rfl
         refine one_ (i:=7) (N:=none) #[true,true,true,true,true,true,true,true,false,false] rfl rfl (one_of HT_.out (by kernel_rfl)) (by decide) (fun K hK=>?_)
         have hs73:w72.cell? ⟨gb102,1,none⟩ = some (.int .i64 0):=(Ba BK102.out 1).trans rfl
         have hfs73:=B2 BK102.out 1
         have hns73_0:=NB101_102.out
         have hms73_0:=NB102_101.out
         refine skip_ (w1:=?_) (by rfl) rfl ?_ ?_
         rotate_left
         ·go_simp
          rfl
         refine hK.out _ _ ⟨((cell_far (p:=⟨gb102,_,none⟩) NB101_102.out _).trans (hHeld.1)),((cell_far (p:=⟨gb102,_,none⟩) NB101_102.out _).trans (hHeld.2.1)),((cell_far (p:=⟨gb102,_,none⟩) NB101_102.out _).trans (hHeld.2.2.1)),((cell_far (p:=⟨gb102,_,none⟩) NB101_102.out _).trans (hHeld.2.2.2))⟩ (fun hHeld=>?_)
         clear hK K
         refine pure_ (i:=8) (N:=some 32) (v:=?_) (a':=?_) #[true,true,true,true,true,true,true,true,true,false] rfl rfl (any_of HT_.out (by kernel_rfl)) (fun _ _ _ h=>h) (Or.inl ⟨by rfl,?_⟩) ?_ ?_
         rotate_left
         ·intro w'
          go_simp
          with_reducible rfl
         rotate_left
         ·simp only [Act.put,List.setIfInBounds_toArray,List.set_cons_zero,List.set_cons_succ,i64_w,i32_w]
          rfl
         refine one_ (i:=9) (N:=none) #[true,true,true,true,true,true,true,true,true,true] rfl rfl (one_of HT_.out (by kernel_rfl)) (by decide) (fun K hK=>?_)
         have hs74:w72.cell? ⟨gb102,2,none⟩ = some (.int .i64 0):=(Ba BK102.out 2).trans rfl
         have hfs74:=B2 BK102.out 2
         have hns74_0:=NB101_102.out
         have hms74_0:=NB102_101.out
         refine skip_ (w1:=?_) (by rfl) rfl ?_ ?_
         rotate_left
         ·go_simp
          rfl
         refine hK.out _ _ ⟨((cell_far (p:=⟨gb102,_,none⟩) NB101_102.out _).trans (hHeld.1)),((cell_far (p:=⟨gb102,_,none⟩) NB101_102.out _).trans (hHeld.2.1)),((cell_far (p:=⟨gb102,_,none⟩) NB101_102.out _).trans (hHeld.2.2.1)),((cell_far (p:=⟨gb102,_,none⟩) NB101_102.out _).trans (hHeld.2.2.2))⟩ (fun hHeld=>?_)
         clear hK K
         refine done_ (done_of HT_.out (by kernel_rfl)) ?_
         obtain ⟨_,_,_,_,_,_,_,_⟩:=Bj BK101.out
         obtain ⟨_,_,_,_,_,_,_,_⟩:=Bj BK102.out
         try go_wp2
         go_ret
         exact ⟨by first|rfl|(simp [errW_none,errW_some] <;> rfl)|(simp only [← hji26,← hji27];first|rfl|(simp [errW_none,errW_some] <;> rfl))|(simp [*,errW_none,errW_some] <;> rfl),by repeat first|(with_reducible first|exact HB.out|apply zA|apply zN|apply z1|refine zS ?_ GE101.out|refine zS ?_ GE102.out)|exact HB.out⟩
       ·rw [if_neg c52] at H
        have c52b0:decide (0 < a0_2) = false:=decide_eq_false c52
        clear c52
        obtain rfl:=Option.some.inj H
        go_enter Tryz.func142,Tryz.ntmps142
        try go_wp2_with (first|((with_reducible refine gate_dst (N:=1) rfl ?_);refine box_event (by rfl) (N:=1) (by rfl) (cs:=#[.int .i64 a0_0, .int .i64 a0_1, .int .i64 a0_2, .string a0_3]) (t:=28) Da ?_;intro gb101 hg w77 hbox hb;have BK101:=z_ (hbox);have GW101:=z_ ((Dh:w.heap.size ≤ gb101));have GE101:=z_ ((Dh:w.heap.size ≤ gb101));replace HB:=z_ (below_step Fe hb);clear hb hbox hg;obtain ⟨_,_,_,_,_,_,_,_⟩:=Bj BK101.out)|((with_reducible refine gate_dst (N:=3) rfl ?_);refine box_event (by rfl) (N:=3) (by rfl) (cs:=#[.int .i64 0, .int .i64 0, .int .i64 0, .string (⟨#[]⟩:ByteArray)]) (t:=28) Da ?_;intro gb102 hg w79 hbox hb;have BK102:=z_ (hbox);have GW102:=z_ ((Do:w.heap.size ≤ gb102));have GE102:=z_ ((Do:w.heap.size ≤ gb102));replace HB:=z_ (below_step Fg hb);have NB101_102:=z_ ((K6:gb101 ≠ gb102));have NB102_101:=z_ ((K5:gb102 ≠ gb101));replace BK101:=z_ (zk BK101.out hb);clear hb hbox hg;have hnb80:=NB102_101.out;have hnc80:=NB101_102.out;obtain ⟨_,_,_,_,_,_,_,_⟩:=Bj BK102.out;obtain ⟨_,_,_,_,_,_,_,_⟩:=Bj BK101.out))
        have n0_:Aside0 (((((w79.setCell ⟨gb102,0,none⟩ (.int .i64 a0_0)).setCell ⟨gb102,1,none⟩ (.int .i64 0)).setCell ⟨gb102,2,none⟩ (.int .i64 0)).setCell ⟨gb102,3,none⟩ (.string (⟨#[]⟩:ByteArray))).heap[gb101]? = some (.cells #[.int .i64 a0_0, .int .i64 a0_1, .int .i64 a0_2, .string a0_3] 28 (0,0))):=⟨by (with_reducible repeat first|apply Ad|apply Ac|apply Ae);refine Bd ?_ NB101_102.out _;(with_reducible repeat first|apply Ad|apply Ac|apply Ae);refine Bd ?_ NB101_102.out _;(with_reducible repeat first|apply Ad|apply Ac|apply Ae);refine Bd ?_ NB101_102.out _;(with_reducible repeat first|apply Ad|apply Ac|apply Ae);refine Bd ?_ NB101_102.out _;(with_reducible repeat first|apply Ad|apply Ac|apply Ae);exact BK101.out⟩
        have n1_:Aside0 (((((w79.setCell ⟨gb102,0,none⟩ (.int .i64 a0_0)).setCell ⟨gb102,1,none⟩ (.int .i64 0)).setCell ⟨gb102,2,none⟩ (.int .i64 0)).setCell ⟨gb102,3,none⟩ (.string (⟨#[]⟩:ByteArray))).heap[gb102]? = some (.cells #[.int .i64 a0_0, .int .i64 0, .int .i64 0, .string (⟨#[]⟩:ByteArray)] 28 (0,0))):=⟨by (with_reducible repeat first|apply Ad|apply Ac|apply Ae);refine Az (cs:=#[.int .i64 a0_0, .int .i64 0, .int .i64 0, .string (⟨#[]⟩:ByteArray)]) ?_ 3 _ rfl;(with_reducible repeat first|apply Ad|apply Ac|apply Ae);refine Az (cs:=#[.int .i64 a0_0, .int .i64 0, .int .i64 0, .string (⟨#[]⟩:ByteArray)]) ?_ 2 _ rfl;(with_reducible repeat first|apply Ad|apply Ac|apply Ae);refine Az (cs:=#[.int .i64 a0_0, .int .i64 0, .int .i64 0, .string (⟨#[]⟩:ByteArray)]) ?_ 1 _ rfl;(with_reducible repeat first|apply Ad|apply Ac|apply Ae);refine Az (cs:=#[.int .i64 0, .int .i64 0, .int .i64 0, .string (⟨#[]⟩:ByteArray)]) ?_ 0 _ rfl;(with_reducible repeat first|apply Ad|apply Ac|apply Ae);exact BK102.out⟩
        have n2_:Aside0 (Below w.heap.size w ((((w79.setCell ⟨gb102,0,none⟩ (.int .i64 a0_0)).setCell ⟨gb102,1,none⟩ (.int .i64 0)).setCell ⟨gb102,2,none⟩ (.int .i64 0)).setCell ⟨gb102,3,none⟩ (.string (⟨#[]⟩:ByteArray)))):=⟨by repeat first|(with_reducible first|exact HB.out|apply zA|apply zN|apply z1|refine zS ?_ GE101.out|refine zS ?_ GE102.out)|exact HB.out⟩
        (try clear BK101)
        (try clear BK102)
        (try clear HB)
        generalize ((((w79.setCell ⟨gb102,0,none⟩ (.int .i64 a0_0)).setCell ⟨gb102,1,none⟩ (.int .i64 0)).setCell ⟨gb102,2,none⟩ (.int .i64 0)).setCell ⟨gb102,3,none⟩ (.string (⟨#[]⟩:ByteArray))) = w83 at n0_ n1_ n2_ ⊢
        have BK101:=n0_
        have BK102:=n1_
        have HB:=n2_
        clear n0_ n1_ n2_
        have n0_:=z_ (Ac BK101.out)
        have n1_:=z_ (Ac BK102.out)
        have n2_:=z_ (z1 HB.out)
        clear BK101
        clear BK102
        clear HB
        have BK101:=n0_
        have BK102:=n1_
        have HB:=n2_
        clear n0_ n1_ n2_
        refine start_ (n:=10) (S:=fun w'=>w'.cell? ⟨gb101,0,none⟩ = some (.int .i64 a0_0) ∧ w'.cell? ⟨gb101,1,none⟩ = some (.int .i64 a0_1) ∧ w'.cell? ⟨gb101,2,none⟩ = some (.int .i64 a0_2) ∧ w'.cell? ⟨gb101,3,none⟩ = some (.string a0_3)) (ds:=[]) #[false,false,false,false,false,false,false,false,false,false] (by kernel_rfl) rfl rfl ⟨(Ba BK101.out 0).trans rfl,(Ba BK101.out 1).trans rfl,(Ba BK101.out 2).trans rfl,(Ba BK101.out 3).trans rfl⟩ (fun hHeld=>?_);refine with_tabW val_Right.tab10 val_Right.bits10 (fun HT_ HW_=>?_)
        generalize w83.drew = w84 at BK101 BK102 HB hHeld ⊢
        refine pure_ (i:=0) (N:=some 25) (v:=?_) (a':=?_) #[true,false,false,false,false,false,false,false,false,false] rfl rfl (any_of HT_.out (by kernel_rfl)) (fun _ _ _ h=>h) (Or.inl ⟨by rfl,?_⟩) ?_ ?_
        rotate_left
        ·intro w'
         go_simp
         with_reducible rfl
        rotate_left
        ·simp only [Act.put,List.setIfInBounds_toArray,List.set_cons_zero,List.set_cons_succ,i64_w,i32_w]
         rfl
        refine pure_ (i:=2) (N:=some 27) (v:=?_) (a':=?_) #[true,false,true,false,false,false,false,false,false,false] rfl rfl (any_of HT_.out (by kernel_rfl)) (fun _ _ _ h=>h) (Or.inl ⟨by rfl,?_⟩) ?_ ?_
        rotate_left
        ·intro w'
         go_simp
         with_reducible rfl
        rotate_left
        ·simp only [Act.put,List.setIfInBounds_toArray,List.set_cons_zero,List.set_cons_succ,i64_w,i32_w]
         rfl
        refine take_ (i:=1) (N:=some 26) (v:=?_) (a':=?_) #[true,true,true,false,false,false,false,false,false,false] rfl rfl (take_ofW HT_.out HW_.out (by kernel_rfl)) (fun _ _ _ h=>h) (Or.inl ⟨by rfl,?_⟩) hHeld ?_ ?_
        rotate_left
        ·rintro w' ⟨s0,s1,s2,s3⟩
         go_simp
         with_reducible rfl
        rotate_left
        ·simp only [Act.put,List.setIfInBounds_toArray,List.set_cons_zero,List.set_cons_succ,i64_w,i32_w]
         rfl
        refine pure_ (i:=6) (N:=some 31) (v:=?_) (a':=?_) #[true,true,true,false,false,false,true,false,false,false] rfl rfl (any_of HT_.out (by kernel_rfl)) (fun _ _ _ h=>h) (Or.inl ⟨by rfl,?_⟩) ?_ ?_
        rotate_left
        ·intro w'
         go_simp
         with_reducible rfl
        rotate_left
        ·simp only [Act.put,List.setIfInBounds_toArray,List.set_cons_zero,List.set_cons_succ,i64_w,i32_w]
         rfl
        refine take_ (i:=3) (N:=some 28) (v:=?_) (a':=?_) #[true,true,true,true,false,false,true,false,false,false] rfl rfl (take_ofW HT_.out HW_.out (by kernel_rfl)) (fun _ _ _ h=>h) (Or.inl ⟨by rfl,?_⟩) hHeld ?_ ?_
        rotate_left
        ·rintro w' ⟨s0,s1,s2,s3⟩
         go_simp
         with_reducible rfl
        rotate_left
        ·simp only [Act.put,List.setIfInBounds_toArray,List.set_cons_zero,List.set_cons_succ,i64_w,i32_w]
         rfl
        refine pure_ (i:=4) (N:=some 29) (v:=?_) (a':=?_) #[true,true,true,true,true,false,true,false,false,false] rfl rfl (any_of HT_.out (by kernel_rfl)) (fun _ _ _ h=>h) (Or.inl ⟨by rfl,?_⟩) ?_ ?_
        rotate_left
        ·intro w'
         go_simp
         with_reducible rfl
        rotate_left
        ·simp only [Act.put,List.setIfInBounds_toArray,List.set_cons_zero,List.set_cons_succ,i64_w,i32_w]
         rfl
        refine pure_ (i:=5) (N:=some 30) (v:=?_) (a':=?_) #[true,true,true,true,true,true,true,false,false,false] rfl rfl (any_of HT_.out (by kernel_rfl)) (fun _ _ _ h=>h) (Or.inl ⟨by rfl,?_⟩) ?_ ?_
        rotate_left
        ·intro w'
         go_simp
         with_reducible rfl
        rotate_left
        ·simp only [Act.put,List.setIfInBounds_toArray,List.set_cons_zero,List.set_cons_succ,i64_w,i32_w]
         rfl
        refine one_ (i:=7) (N:=none) #[true,true,true,true,true,true,true,true,false,false] rfl rfl (one_of HT_.out (by kernel_rfl)) (by decide) (fun K hK=>?_)
        have hs85:w84.cell? ⟨gb102,1,none⟩ = some (.int .i64 0):=(Ba BK102.out 1).trans rfl
        have hfs85:=B2 BK102.out 1
        have hns85_0:=NB101_102.out
        have hms85_0:=NB102_101.out
        refine skip_ (w1:=?_) (by rfl) rfl ?_ ?_
        rotate_left
        ·go_simp
         rfl
        refine hK.out _ _ ⟨((cell_far (p:=⟨gb102,_,none⟩) NB101_102.out _).trans (hHeld.1)),((cell_far (p:=⟨gb102,_,none⟩) NB101_102.out _).trans (hHeld.2.1)),((cell_far (p:=⟨gb102,_,none⟩) NB101_102.out _).trans (hHeld.2.2.1)),((cell_far (p:=⟨gb102,_,none⟩) NB101_102.out _).trans (hHeld.2.2.2))⟩ (fun hHeld=>?_)
        clear hK K
        refine pure_ (i:=8) (N:=some 32) (v:=?_) (a':=?_) #[true,true,true,true,true,true,true,true,true,false] rfl rfl (any_of HT_.out (by kernel_rfl)) (fun _ _ _ h=>h) (Or.inl ⟨by rfl,?_⟩) ?_ ?_
        rotate_left
        ·intro w'
         go_simp
         with_reducible rfl
        rotate_left
        ·simp only [Act.put,List.setIfInBounds_toArray,List.set_cons_zero,List.set_cons_succ,i64_w,i32_w]
         rfl
        refine one_ (i:=9) (N:=none) #[true,true,true,true,true,true,true,true,true,true] rfl rfl (one_of HT_.out (by kernel_rfl)) (by decide) (fun K hK=>?_)
        have hs86:w84.cell? ⟨gb102,2,none⟩ = some (.int .i64 0):=(Ba BK102.out 2).trans rfl
        have hfs86:=B2 BK102.out 2
        have hns86_0:=NB101_102.out
        have hms86_0:=NB102_101.out
        refine skip_ (w1:=?_) (by rfl) rfl ?_ ?_
        rotate_left
        ·go_simp
         rfl
        refine hK.out _ _ ⟨((cell_far (p:=⟨gb102,_,none⟩) NB101_102.out _).trans (hHeld.1)),((cell_far (p:=⟨gb102,_,none⟩) NB101_102.out _).trans (hHeld.2.1)),((cell_far (p:=⟨gb102,_,none⟩) NB101_102.out _).trans (hHeld.2.2.1)),((cell_far (p:=⟨gb102,_,none⟩) NB101_102.out _).trans (hHeld.2.2.2))⟩ (fun hHeld=>?_)
        clear hK K
        refine done_ (done_of HT_.out (by kernel_rfl)) ?_
        obtain ⟨_,_,_,_,_,_,_,_⟩:=Bj BK101.out
        obtain ⟨_,_,_,_,_,_,_,_⟩:=Bj BK102.out
        try go_wp2
        go_ret
        exact ⟨by first|rfl|(simp [errW_none,errW_some] <;> rfl)|(simp only [← hji26,← hji27];first|rfl|(simp [errW_none,errW_some] <;> rfl))|(simp [*,errW_none,errW_some] <;> rfl),by repeat first|(with_reducible first|exact HB.out|apply zA|apply zN|apply z1|refine zS ?_ GE101.out|refine zS ?_ GE102.out)|exact HB.out⟩
    ·rw [if_neg c25] at H
     have c25b0:(a0_0 == 3) = false:=beq_eq_false_iff_ne.mpr c25
     have c25b1:(a0_0 != 3) = true:=bne_iff_ne.mpr c25
     have HC89:=z_ H
     clear H
     go_enter Tryz.func142,Tryz.ntmps142
     go_upto_if 52 with (first|((with_reducible refine gate_dst (N:=1) rfl ?_);refine box_event (by rfl) (N:=1) (by rfl) (cs:=#[.int .i64 a0_0, .int .i64 a0_1, .int .i64 a0_2, .string a0_3]) (t:=28) Da ?_;intro gb101 hg w90 hbox hb;have BK101:=z_ (hbox);have GW101:=z_ ((Dh:w.heap.size ≤ gb101));have GE101:=z_ ((Dh:w.heap.size ≤ gb101));replace HB:=z_ (below_step Fe hb);clear hb hbox hg;obtain ⟨_,_,_,_,_,_,_,_⟩:=Bj BK101.out)|((with_reducible refine gate_dst (N:=3) rfl ?_);refine box_event (by rfl) (N:=3) (by rfl) (cs:=#[.int .i64 0, .int .i64 0, .int .i64 0, .string (⟨#[]⟩:ByteArray)]) (t:=28) Da ?_;intro gb102 hg w92 hbox hb;have BK102:=z_ (hbox);have GW102:=z_ ((Do:w.heap.size ≤ gb102));have GE102:=z_ ((Do:w.heap.size ≤ gb102));replace HB:=z_ (below_step Fg hb);have NB101_102:=z_ ((K6:gb101 ≠ gb102));have NB102_101:=z_ ((K5:gb102 ≠ gb101));replace BK101:=z_ (zk BK101.out hb);clear hb hbox hg;have hnb93:=NB102_101.out;have hnc93:=NB101_102.out;obtain ⟨_,_,_,_,_,_,_,_⟩:=Bj BK102.out;obtain ⟨_,_,_,_,_,_,_,_⟩:=Bj BK101.out))
     (try simp only [Act.put,List.setIfInBounds_toArray,List.set_cons_zero,List.set_cons_succ])
     go_cut [52] (fun v52 wc=>∃ (kq:Nat) (x52_88:Bool),v52 = .bool x52_88 ∧ Aside0 (val_Right.j0 kq x52_88 a0_0 a0_1 a0_2 a0_3 a0_0 0 0 (⟨#[]⟩:ByteArray) = some r) ∧ Aside0 (kq ≤ k) ∧ Aside0 (wc.heap[gb101]? = some (.cells #[.int .i64 a0_0, .int .i64 a0_1, .int .i64 a0_2, .string a0_3] 28 (0,0))) ∧ Aside0 (wc.heap[gb102]? = some (.cells #[.int .i64 a0_0, .int .i64 0, .int .i64 0, .string (⟨#[]⟩:ByteArray)] 28 (0,0))) ∧ Aside0 (Below w.heap.size w wc))
     case first =>
      have H:=HC89.out
      clear HC89
      by_cases c96:a0_0 = 4
      ·rw [if_pos c96] at H
       have c96b0:(a0_0 == 4) = true:=beq_iff_eq.mpr c96
       have c96b1:(a0_0 != 4) = false:=bne_eq_false_iff_eq.mpr c96
       clear c96
       (first|rw [c96b0]|(simp only [i64_w,i32_w];rw [c96b0])|skip)
       have H':=z_ H
       clear H
       go_wp2
       go_meet
       case rel=>exact ⟨_,((a0_0 == 4)),Hv,(by first|with_reducible exact H'|(rw [hji27];exact H')|exact H'),⟨by first|omega|exact Nat.le_refl _⟩,⟨by (with_reducible repeat first|apply Ad|apply Ac|apply Ae);refine Bd ?_ NB101_102.out _;(with_reducible repeat first|apply Ad|apply Ac|apply Ae);refine Bd ?_ NB101_102.out _;(with_reducible repeat first|apply Ad|apply Ac|apply Ae);refine Bd ?_ NB101_102.out _;(with_reducible repeat first|apply Ad|apply Ac|apply Ae);refine Bd ?_ NB101_102.out _;(with_reducible repeat first|apply Ad|apply Ac|apply Ae);exact BK101.out⟩,⟨by (with_reducible repeat first|apply Ad|apply Ac|apply Ae);refine Az (cs:=#[.int .i64 a0_0, .int .i64 0, .int .i64 0, .string (⟨#[]⟩:ByteArray)]) ?_ 3 _ rfl;(with_reducible repeat first|apply Ad|apply Ac|apply Ae);refine Az (cs:=#[.int .i64 a0_0, .int .i64 0, .int .i64 0, .string (⟨#[]⟩:ByteArray)]) ?_ 2 _ rfl;(with_reducible repeat first|apply Ad|apply Ac|apply Ae);refine Az (cs:=#[.int .i64 a0_0, .int .i64 0, .int .i64 0, .string (⟨#[]⟩:ByteArray)]) ?_ 1 _ rfl;(with_reducible repeat first|apply Ad|apply Ac|apply Ae);refine Az (cs:=#[.int .i64 0, .int .i64 0, .int .i64 0, .string (⟨#[]⟩:ByteArray)]) ?_ 0 _ rfl;(with_reducible repeat first|apply Ad|apply Ac|apply Ae);exact BK102.out⟩,⟨by repeat first|(with_reducible first|exact HB.out|apply zA|apply zN|apply z1|refine zS ?_ GE101.out|refine zS ?_ GE102.out)|exact HB.out⟩⟩
      ·rw [if_neg c96] at H
       have c96b0:(a0_0 == 4) = false:=beq_eq_false_iff_ne.mpr c96
       have c96b1:(a0_0 != 4) = true:=bne_iff_ne.mpr c96
       (first|rw [c96b0]|(simp only [i64_w,i32_w];rw [c96b0])|skip)
       have H':=z_ H
       clear H
       go_wp2
       go_meet
       case rel=>exact ⟨_,((a0_0 == 5)),Hv,(by first|with_reducible exact H'|(rw [hji27];exact H')|exact H'),⟨by first|omega|exact Nat.le_refl _⟩,⟨by (with_reducible repeat first|apply Ad|apply Ac|apply Ae);refine Bd ?_ NB101_102.out _;(with_reducible repeat first|apply Ad|apply Ac|apply Ae);refine Bd ?_ NB101_102.out _;(with_reducible repeat first|apply Ad|apply Ac|apply Ae);refine Bd ?_ NB101_102.out _;(with_reducible repeat first|apply Ad|apply Ac|apply Ae);refine Bd ?_ NB101_102.out _;(with_reducible repeat first|apply Ad|apply Ac|apply Ae);exact BK101.out⟩,⟨by (with_reducible repeat first|apply Ad|apply Ac|apply Ae);refine Az (cs:=#[.int .i64 a0_0, .int .i64 0, .int .i64 0, .string (⟨#[]⟩:ByteArray)]) ?_ 3 _ rfl;(with_reducible repeat first|apply Ad|apply Ac|apply Ae);refine Az (cs:=#[.int .i64 a0_0, .int .i64 0, .int .i64 0, .string (⟨#[]⟩:ByteArray)]) ?_ 2 _ rfl;(with_reducible repeat first|apply Ad|apply Ac|apply Ae);refine Az (cs:=#[.int .i64 a0_0, .int .i64 0, .int .i64 0, .string (⟨#[]⟩:ByteArray)]) ?_ 1 _ rfl;(with_reducible repeat first|apply Ad|apply Ac|apply Ae);refine Az (cs:=#[.int .i64 0, .int .i64 0, .int .i64 0, .string (⟨#[]⟩:ByteArray)]) ?_ 0 _ rfl;(with_reducible repeat first|apply Ad|apply Ac|apply Ae);exact BK102.out⟩,⟨by repeat first|(with_reducible first|exact HB.out|apply zA|apply zN|apply z1|refine zS ?_ GE101.out|refine zS ?_ GE102.out)|exact HB.out⟩⟩
     case rest =>
      clear HC89
      try clear c1
      try clear c2
      try clear p2
      try clear c4
      try clear c5
      try clear c6
      try clear c8
      try clear c9
      try clear c14
      try clear c25
      try clear c25b0
      try clear c25b1
      try clear c28
      try clear c28b0
      try clear c40
      try clear c40b0
      try clear c44
      try clear c52
      try clear c52b0
      try clear c53
      try clear c53b0
      try clear c53b1
      try clear c57
      try clear c68
      try clear c80
      try clear c93
      try clear c96
      try clear c96b0
      try clear c96b1
      try clear hcz39_0
      try clear hcz39_1
      try clear hcz39_2
      try clear hcz39_3
      try clear hcz42_0
      try clear hcz42_1
      try clear hcz42_2
      try clear hcz42_3
      try clear hcz45_0
      try clear hcz45_1
      try clear hcz45_2
      try clear hcz45_3
      try clear hcz46_0
      try clear hcz46_1
      try clear hcz46_2
      try clear hcz46_3
      try clear hcz51_0
      try clear hcz51_1
      try clear hcz51_2
      try clear hcz51_3
      try clear hcz55_0
      try clear hcz55_1
      try clear hcz55_2
      try clear hcz55_3
      try clear hcz58_0
      try clear hcz58_1
      try clear hcz58_2
      try clear hcz58_3
      try clear hcz59_0
      try clear hcz59_1
      try clear hcz59_2
      try clear hcz59_3
      try clear hcz64_0
      try clear hcz64_1
      try clear hcz64_2
      try clear hcz64_3
      try clear hcz66_0
      try clear hcz66_1
      try clear hcz66_2
      try clear hcz66_3
      try clear hcz69_0
      try clear hcz69_1
      try clear hcz69_2
      try clear hcz69_3
      try clear hcz70_0
      try clear hcz70_1
      try clear hcz70_2
      try clear hcz70_3
      try clear hcz75_0
      try clear hcz75_1
      try clear hcz75_2
      try clear hcz75_3
      try clear hcz76_0
      try clear hcz76_1
      try clear hcz76_2
      try clear hcz76_3
      try clear hcz78_0
      try clear hcz78_1
      try clear hcz78_2
      try clear hcz78_3
      try clear hcz81_0
      try clear hcz81_1
      try clear hcz81_2
      try clear hcz81_3
      try clear hcz82_0
      try clear hcz82_1
      try clear hcz82_2
      try clear hcz82_3
      try clear hcz87_0
      try clear hcz87_1
      try clear hcz87_2
      try clear hcz87_3
      try clear hcz88_0
      try clear hcz88_1
      try clear hcz88_2
      try clear hcz88_3
      try clear hcz91_0
      try clear hcz91_1
      try clear hcz91_2
      try clear hcz91_3
      try clear hcz94_0
      try clear hcz94_1
      try clear hcz94_2
      try clear hcz94_3
      try clear hcz95_0
      try clear hcz95_1
      try clear hcz95_2
      try clear hcz95_3
      try clear hfz39_0
      try clear hfz39_1
      try clear hfz39_2
      try clear hfz39_3
      try clear hfz42_0
      try clear hfz42_1
      try clear hfz42_2
      try clear hfz42_3
      try clear hfz45_0
      try clear hfz45_1
      try clear hfz45_2
      try clear hfz45_3
      try clear hfz46_0
      try clear hfz46_1
      try clear hfz46_2
      try clear hfz46_3
      try clear hfz51_0
      try clear hfz51_1
      try clear hfz51_2
      try clear hfz51_3
      try clear hfz55_0
      try clear hfz55_1
      try clear hfz55_2
      try clear hfz55_3
      try clear hfz58_0
      try clear hfz58_1
      try clear hfz58_2
      try clear hfz58_3
      try clear hfz59_0
      try clear hfz59_1
      try clear hfz59_2
      try clear hfz59_3
      try clear hfz64_0
      try clear hfz64_1
      try clear hfz64_2
      try clear hfz64_3
      try clear hfz66_0
      try clear hfz66_1
      try clear hfz66_2
      try clear hfz66_3
      try clear hfz69_0
      try clear hfz69_1
      try clear hfz69_2
      try clear hfz69_3
      try clear hfz70_0
      try clear hfz70_1
      try clear hfz70_2
      try clear hfz70_3
      try clear hfz75_0
      try clear hfz75_1
      try clear hfz75_2
      try clear hfz75_3
      try clear hfz76_0
      try clear hfz76_1
      try clear hfz76_2
      try clear hfz76_3
      try clear hfz78_0
      try clear hfz78_1
      try clear hfz78_2
      try clear hfz78_3
      try clear hfz81_0
      try clear hfz81_1
      try clear hfz81_2
      try clear hfz81_3
      try clear hfz82_0
      try clear hfz82_1
      try clear hfz82_2
      try clear hfz82_3
      try clear hfz87_0
      try clear hfz87_1
      try clear hfz87_2
      try clear hfz87_3
      try clear hfz88_0
      try clear hfz88_1
      try clear hfz88_2
      try clear hfz88_3
      try clear hfz91_0
      try clear hfz91_1
      try clear hfz91_2
      try clear hfz91_3
      try clear hfz94_0
      try clear hfz94_1
      try clear hfz94_2
      try clear hfz94_3
      try clear hfz95_0
      try clear hfz95_1
      try clear hfz95_2
      try clear hfz95_3
      obtain ⟨kq,x52_88,rfl,HA,HJ88,BK101,BK102,HB⟩:=hcut
      cases kq with
      | zero=>exact absurd HA.out (by simp [val_Right.j0])
      | succ kj88 =>
       have H:=HA.out
       clear HA
       simp only [val_Right.j0] at H
       by_cases c97:x52_88 = true
       ·subst c97
        have H1:(if (a0_3.size:Int) > 40 then (some false) else (if a0_0 = 4 then ((val_printable.f kj88 a0_3).bind fun t103=>(if t103 = true then (some (a0_0 == a0_0 && (a0_1 == 0 && (a0_2 == 0)))) else (some false))) else (some (a0_0 == a0_0 && (a0_1 == 0 && (a0_2 == 0)))))) = some r:=by rw [if_pos rfl] at H;exact H
        clear H
        have H:=H1
        clear H1
        by_cases c98:(a0_3.size:Int) > 40
        ·rw [if_pos c98] at H
         have c98b0:decide (40 < (a0_3.size:Int)) = true:=decide_eq_true c98
         have c98b1:decide (40 < a0_3.size) = true:=decide_eq_true (by omega)
         clear c98
         obtain rfl:=Option.some.inj H
         have hnb99:=NB101_102.out
         have hnc99:=NB102_101.out
         obtain ⟨_,_,_,_,_,_,_,_⟩:=Bj BK101.out
         obtain ⟨_,_,_,_,_,_,_,_⟩:=Bj BK102.out
         go_wp2
         go_ret
         exact ⟨by first|rfl|(simp [errW_none,errW_some] <;> rfl)|(simp [*,errW_none,errW_some] <;> rfl),by repeat first|(with_reducible first|exact HB.out|apply zA|apply zN|apply z1|refine zS ?_ GE101.out|refine zS ?_ GE102.out)|exact HB.out⟩
        ·rw [if_neg c98] at H
         have c98b0:decide (40 < (a0_3.size:Int)) = false:=decide_eq_false c98
         have c98b1:decide (40 < a0_3.size) = false:=decide_eq_false (by omega)
         clear c98
         by_cases c102:a0_0 = 4
         ·rw [if_pos c102] at H
          have c102b0:(a0_0 == 4) = true:=beq_iff_eq.mpr c102
          have c102b1:(a0_0 != 4) = false:=bne_eq_false_iff_eq.mpr c102
          clear c102
          replace H:=Option.bind_eq_some_iff.mp H
          obtain ⟨t103,A1030,H⟩:=H
          replace H:(if t103 = true then (some (a0_0 == a0_0 && (a0_1 == 0 && (a0_2 == 0)))) else (some false)) = some r:=H
          have A103:=z_ A1030
          clear A1030
          by_cases c104:t103 = true
          ·subst c104
           have H1:(some (a0_0 == a0_0 && (a0_1 == 0 && (a0_2 == 0)))) = some r:=by rw [if_pos rfl] at H;exact H
           clear H
           have H:=H1
           clear H1
           obtain rfl:=Option.some.inj H
           have hnb105:=NB101_102.out
           have hnc105:=NB102_101.out
           obtain ⟨_,_,_,_,_,_,_,_⟩:=Bj BK101.out
           obtain ⟨_,_,_,_,_,_,_,_⟩:=Bj BK102.out
           go_wp2_with (first|(go_at_call 167;(with_reducible refine (val_printable.calls kj88 a0_3 true _ A103.out).mono ?_);rintro e w' ⟨rfl,⟨nd,rfl⟩⟩))
           go_ret
           exact ⟨by first|rfl|(simp [errW_none,errW_some] <;> rfl)|(simp [*,errW_none,errW_some] <;> rfl),by repeat first|(with_reducible first|exact HB.out|apply zA|apply zN|apply z1|refine zS ?_ GE101.out|refine zS ?_ GE102.out)|exact HB.out⟩
          ·replace c104:=Bool.eq_false_iff.mpr c104
           subst c104
           have H1:(some false) = some r:=by rw [if_neg (show ¬ (false = true) by decide)] at H;exact H
           clear H
           have H:=H1
           clear H1
           obtain rfl:=Option.some.inj H
           have hnb108:=NB101_102.out
           have hnc108:=NB102_101.out
           obtain ⟨_,_,_,_,_,_,_,_⟩:=Bj BK101.out
           obtain ⟨_,_,_,_,_,_,_,_⟩:=Bj BK102.out
           go_wp2_with (first|(go_at_call 167;(with_reducible refine (val_printable.calls kj88 a0_3 false _ A103.out).mono ?_);rintro e w' ⟨rfl,⟨nd,rfl⟩⟩))
           go_ret
           exact ⟨by first|rfl|(simp [errW_none,errW_some] <;> rfl)|(simp [*,errW_none,errW_some] <;> rfl),by repeat first|(with_reducible first|exact HB.out|apply zA|apply zN|apply z1|refine zS ?_ GE101.out|refine zS ?_ GE102.out)|exact HB.out⟩
         ·rw [if_neg c102] at H
          have c102b0:(a0_0 == 4) = false:=beq_eq_false_iff_ne.mpr c102
          have c102b1:(a0_0 != 4) = true:=bne_iff_ne.mpr c102
          obtain rfl:=Option.some.inj H
          have hnb111:=NB101_102.out
          have hnc111:=NB102_101.out
          obtain ⟨_,_,_,_,_,_,_,_⟩:=Bj BK101.out
          obtain ⟨_,_,_,_,_,_,_,_⟩:=Bj BK102.out
          go_wp2
          go_ret
          exact ⟨by first|rfl|(simp [errW_none,errW_some] <;> rfl)|(simp [*,errW_none,errW_some] <;> rfl),by repeat first|(with_reducible first|exact HB.out|apply zA|apply zN|apply z1|refine zS ?_ GE101.out|refine zS ?_ GE102.out)|exact HB.out⟩
       ·replace c97:=Bool.eq_false_iff.mpr c97
        subst c97
        have H1:(some false) = some r:=by rw [if_neg (show ¬ (false = true) by decide)] at H;exact H
        clear H
        have H:=H1
        clear H1
        obtain rfl:=Option.some.inj H
        go_wp2
        go_ret
        exact ⟨by first|rfl|(simp [errW_none,errW_some] <;> rfl)|(simp [*,errW_none,errW_some] <;> rfl),by repeat first|(with_reducible first|exact HB.out|apply zA|apply zN|apply z1|refine zS ?_ GE101.out|refine zS ?_ GE102.out)|exact HB.out⟩
end Go.Proofs.YtdlkibeljkapeaaGreatDoor.B
namespace Go.Proofs.YtdlkibeljkapeaaGreatDoor.B
open Go.RowKit Go.Proofs.YtdlkibeljkapeaaGreatDoorW.PrintWords Go.Proofs.YtdlkibeljkapeaaGreatDoorW.PrintLast Go.Proofs.YtdlkibeljkapeaaGreatDoorW.PrintMore
attribute [local go_sem] max2_int min2_int max_two min_two max_three min_three max_four min_four
attribute [local go_sem high] own_gtr own_leq own_geq own_cell_set Option.map_some
set_option linter.unusedVariables false
set_option linter.unusedSimpArgs false
def okB (st:ByteArray):Bool:=st.data.toList.all fun b=>decide (32≤b.toNat∧b.toNat≤126)
theorem bt_data (st:ByteArray) (i:Nat) (h:i < st.data.size):bt st (i:Int)=((st.data[i]).toNat:Int):=by
 rw [← bt_at st (i:Int) (by simpa using h)]
 rfl
theorem all_drop (st:ByteArray) (i:Nat) (h:i < st.data.size):(st.data.toList.drop i).all (fun b=>decide (32≤b.toNat∧b.toNat≤126))=(decide (32≤(st.data[i]).toNat∧(st.data[i]).toNat≤126)&&(st.data.toList.drop (i+1)).all fun b=>decide (32≤b.toNat∧b.toNat≤126)):=by
 rw [List.drop_eq_getElem_cons (by simpa using h),List.all_cons]
 simp
theorem val_printable_l0 (st:ByteArray) (hs:st.data.size≤140737488351232):∀ (d k i:Nat),d < k→i+d=st.data.size→val_printable.l0 k st (i:Int)=some ((st.data.toList.drop i).all fun b=>decide (32≤b.toNat∧b.toNat≤126))
 | 0,k,i,hk,h=>by
  obtain ⟨k,rfl⟩:∃ m,k=m+1:=⟨k - 1,by omega⟩
  simp only [val_printable.l0];rw [if_neg (by have hz:st.size=st.data.size:=rfl;omega),List.drop_of_length_le (by have hz:st.data.toList.length=st.data.size:=rfl;omega)];rfl
 | d+1,k,i,hk,h=>by
  obtain ⟨k,rfl⟩:∃ m,k=m+1:=⟨k - 1,by omega⟩
  simp only [val_printable.l0]
  rw [if_pos (by have hz:st.size=st.data.size:=rfl;omega),if_pos (by omega),bt_data st i (by omega),all_drop st i (by omega)]
  by_cases h1:((st.data[i]'(by omega)).toNat:Int) < 32
  ·rw [if_pos h1,decide_eq_false (by omega)];rfl
  ·rw [if_neg h1]
   by_cases h2:((st.data[i]'(by omega)).toNat:Int) > 126
   ·rw [if_pos h2,decide_eq_false (by omega)];rfl
   ·rw [if_neg h2,decide_eq_true (by omega),wrap64_of (by omega) (by omega),Bool.true_and]
    exact val_printable_l0 st hs d k (i+1) (by omega) (by omega)
theorem val_printable_eq (st:ByteArray) (k:Nat) (hs:st.data.size≤140737488351232) (hk:st.data.size < k):val_printable.f k st=some (okB st):=val_printable_l0 st hs st.data.size k 0 hk (by omega)
def noS (st:ByteArray):Bool:=st.toList==([]:List UInt8)
def rightB (kd n sc:Int) (st:ByteArray):Bool :=
 if kd=0 then n==0&&(sc==0&&noS st)
 else if kd=1 then decide (0≤n∧n≤1)&&(sc==0&&noS st)
 else if kd=2 then sc==0&&noS st
 else if kd=3 then decide (-1000000000000000 < n∧n < 1000000000000000∧0≤sc∧sc≤6∧(sc=0∨n % 10≠0))&&noS st
 else if kd=4 then decide (n=0∧sc=0∧st.data.size≤40)&&okB st
 else if kd=5 then decide (n=0∧sc=0∧st.data.size≤40)
 else false
theorem val_Right_eq (k:Nat) (kd n sc:Int) (st:ByteArray) (hk:42 < k):val_Right.f k kd n sc st=some (rightB kd n sc st):=by
 obtain ⟨k,rfl⟩:∃ m,k=m+1:=⟨k - 1,by omega⟩
 have hz:(st.size:Int)=(st.data.size:Int):=rfl
 unfold val_Right.f rightB
 by_cases h0:kd=0
 ·rw [if_pos h0,if_pos h0];rfl
 rw [if_neg h0,if_neg h0]
 by_cases h1:kd=1
 ·rw [if_pos h1,if_pos h1]
  congr 2
  rw [Bool.eq_iff_iff];simp only [beq_iff_eq,decide_eq_true_eq];unfold mn mx
  constructor
  ·intro h;split at h<;>(try split at h)<;>omega
  ·intro h;split<;>(try split)<;>omega
 rw [if_neg h1,if_neg h1]
 by_cases h2:kd=2
 ·rw [if_pos h2,if_pos h2];rfl
 rw [if_neg h2,if_neg h2]
 by_cases h3:kd=3
 ·rw [if_pos h3,if_pos h3]
  have ht:=tmod10 n
  by_cases a1:n≤-1000000000000000
  ·rw [if_pos a1,decide_eq_false (by omega)];rfl
  rw [if_neg a1]
  by_cases a2:n≥1000000000000000
  ·rw [if_pos a2,decide_eq_false (by omega)];rfl
  rw [if_neg a2]
  have hm:(sc==mn (mx sc 0) 6)=decide (0≤sc∧sc≤6):=by
   rw [Bool.eq_iff_iff];simp only [beq_iff_eq,decide_eq_true_eq];unfold mn mx
   constructor
   ·intro h;split at h<;>(try split at h)<;>omega
   ·intro h;split<;>(try split)<;>omega
  by_cases a3:sc > 0
  ·rw [if_pos a3]
   by_cases a4:Int.tmod n 10=0
   ·rw [if_pos a4,decide_eq_false (by have:=ht.1 a4;omega)];rfl
   ·rw [if_neg a4,hm]
    have:n % 10≠0:=fun e=>a4 (ht.2 e)
    by_cases a5:sc≤6
    ·rw [decide_eq_true (by omega),decide_eq_true (by omega)];rfl
    ·rw [decide_eq_false (by omega),decide_eq_false (by omega)];rfl
  ·rw [if_neg a3,hm]
   by_cases a5:0≤sc
   ·rw [decide_eq_true (by omega),decide_eq_true (by omega)];rfl
   ·rw [decide_eq_false (by omega),decide_eq_false (by omega)];rfl
 rw [if_neg h3,if_neg h3]
 by_cases h4:kd=4
 ·rw [if_pos h4,if_pos h4]
  subst h4
  simp only [val_Right.j0,beq_self_eq_true,if_true,Bool.true_and]
  by_cases a1:(st.size:Int) > 40
  ·rw [if_pos a1,decide_eq_false (by omega)];rfl
  ·rw [if_neg a1,val_printable_eq st k (by omega) (by omega)]
   simp only [Option.bind_some]
   cases hb:okB st with
   | false=>simp
   | true =>
    simp only [if_true,Bool.and_true]
    congr 1
    rw [Bool.eq_iff_iff];simp only [Bool.and_eq_true,beq_iff_eq,decide_eq_true_eq];omega
 rw [if_neg h4,if_neg h4]
 by_cases h5:kd=5
 ·rw [if_pos h5]
  subst h5
  simp only [val_Right.j0,beq_self_eq_true,if_true,Bool.true_and]
  by_cases a1:(st.size:Int) > 40
  ·rw [if_pos a1,decide_eq_false (by omega)]
  ·rw [if_neg a1,if_neg (by decide)]
   congr 1
   rw [Bool.eq_iff_iff];simp only [Bool.and_eq_true,beq_iff_eq,decide_eq_true_eq];omega
 ·rw [if_neg h5]
  simp only [val_Right.j0,show (kd==5)=false from by simpa using h5]
  simp
end Go.Proofs.YtdlkibeljkapeaaGreatDoor.B
namespace Go.Proofs.YtdlkibeljkapeaaGreatDoor.B
open Go.RowKit Go.Proofs.YtdlkibeljkapeaaGreatDoorW.PrintWords Go.Proofs.YtdlkibeljkapeaaGreatDoorW.PrintLast Go.Proofs.YtdlkibeljkapeaaGreatDoorW.PrintMore
attribute [local go_sem] max2_int min2_int max_two min_two max_three min_three max_four min_four
attribute [local go_sem high] own_gtr own_leq own_geq own_cell_set Option.map_some
set_option linter.unusedVariables false
set_option linter.unusedSimpArgs false
def I64 (x:Int):Prop:=-9223372036854775808≤x∧x≤9223372036854775807
end Go.Proofs.YtdlkibeljkapeaaGreatDoor.B
namespace Go.Proofs.YtdlkibeljkapeaaGreatDoor.B
open Go.RowKit Go.Proofs.YtdlkibeljkapeaaGreatDoorW.PrintWords Go.Proofs.YtdlkibeljkapeaaGreatDoorW.PrintLast Go.Proofs.YtdlkibeljkapeaaGreatDoorW.PrintMore
attribute [local go_sem] max2_int min2_int max_two min_two max_three min_three max_four min_four
attribute [local go_sem high] own_gtr own_leq own_geq own_cell_set Option.map_some
set_option linter.unusedVariables false
set_option linter.unusedSimpArgs false
structure RD (n:Int) (s:Nat):Prop where
 lo : -1000000000000000 < n
 hi:n < 1000000000000000
 sc:s≤6
 nm:s=0∨n % 10≠0
structure RV (kd n:Int) (s:Nat):Prop where
 i:I64 n
 d:kd=3→RD n s
end Go.Proofs.YtdlkibeljkapeaaGreatDoor.B
namespace Go.Proofs.YtdlkibeljkapeaaGreatDoor.B
open Go.RowKit Go.Proofs.YtdlkibeljkapeaaGreatDoorW.PrintWords Go.Proofs.YtdlkibeljkapeaaGreatDoorW.PrintLast Go.Proofs.YtdlkibeljkapeaaGreatDoorW.PrintMore
attribute [local go_sem] max2_int min2_int max_two min_two max_three min_three max_four min_four
attribute [local go_sem high] own_gtr own_leq own_geq own_cell_set Option.map_some
set_option linter.unusedVariables false
set_option linter.unusedSimpArgs false
theorem within_eq (a n:Int) (ha:I64 a) (h0:0 < n) (h1:n≤4611686018427387904):federationlaw1_within.f a n=some (a % n):=by
 unfold federationlaw1_within.f I64 at *
 rw [if_neg (by omega)]
 have e1:=Int.mul_tdiv_add_tmod a n
 have e2:=Int.mul_ediv_add_emod a n
 have e3:=Int.emod_lt_of_pos a h0
 have e4:=Int.emod_nonneg a (show n≠0 by omega)
 have e5:=Int.tmod_lt_of_pos a h0
 have e6:=Int.tmod_lt_of_pos (-a) h0
 rw [Int.neg_tmod] at e6
 by_cases c:a.tmod n < 0
 ·rw [if_pos c,wrap64_of (by omega) (by omega)]
  have:=((Int.ediv_emod_unique (a:=a) (r:=a.tmod n+n) (q:=a.tdiv n - 1) h0).2 ⟨by rw [Int.mul_sub,Int.mul_one];omega,by omega,by omega⟩).2
  rw [this]
 ·rw [if_neg c]
  have:=((Int.ediv_emod_unique (a:=a) (r:=a.tmod n) (q:=a.tdiv n) h0).2 ⟨by omega,by omega,by omega⟩).2
  rw [this]
theorem emod_bd (a n:Int) (h0:0 < n):0≤a % n∧a % n < n:=⟨Int.emod_nonneg a (by omega),Int.emod_lt_of_pos a h0⟩
theorem RV_right {kd n:Int} {s:Nat} {st:ByteArray} (hn:I64 n) (h:rightB kd n (s:Int) st=true):RV kd n s:=by
 refine ⟨hn,fun e=>?_⟩
 subst e
 unfold rightB at h
 rw [if_neg (by decide),if_neg (by decide),if_neg (by decide),if_pos rfl,Bool.and_eq_true,decide_eq_true_eq] at h
 obtain ⟨⟨a,b,c,d,e⟩,_⟩:=h
 exact ⟨a,b,by omega,by omega⟩
theorem noS_empty:noS (⟨#[]⟩:ByteArray)=true:=by decide +kernel
theorem right_RD {n:Int} {s:Nat} (h:RD n s):rightB 3 n (s:Int) (⟨#[]⟩:ByteArray)=true:=by
 unfold rightB
 rw [if_neg (by decide),if_neg (by decide),if_neg (by decide),if_pos rfl,noS_empty,Bool.and_true,decide_eq_true_eq]
 exact ⟨h.lo,h.hi,by omega,by have:=h.sc;omega,by have:=h.nm;omega⟩
theorem RD_red (n:Int) (s:Nat) (h0 : -1000000000000000 < n) (h1:n < 1000000000000000) (hs:s≤6):RD (red n s).1 (red n s).2:=by
 have a:=red_abs s n
 have b:=red_scale s n
 have c:=red_done s n
 exact ⟨by omega,by omega,by omega,c⟩
theorem mkText_size (st:ByteArray):(mkText st).data.size≤40:=by
 unfold mkText strOfNums
 simp [conv8L_length]
 omega
theorem mkText_ok (st:ByteArray):okB (mkText st)=true:=by
 unfold okB mkText strOfNums
 simp only [List.all_eq_true,decide_eq_true_eq,List.map_toArray,List.mem_map,conv8L]
 rintro b ⟨x,hx,rfl⟩
 obtain ⟨c,_,rfl⟩:=List.mem_map.1 (List.mem_of_mem_take hx)
 unfold conv8
 have h1:=emod_bd (c.toNat:Int) 95 (by decide)
 generalize (c.toNat:Int) % 95=z at *
 have:((32+z).toNat % 256)=(32+z).toNat:=Nat.mod_eq_of_lt (by omega)
 simp only [UInt8.toNat_ofNat']
 omega
theorem extract_size (st:ByteArray) (j:Nat):(st.extract 0 j).data.size=min j st.data.size:=by
 rw [← Array.length_toList,Lib.extract_data]
 simp
structure Made (kd n:Int) (s:Nat) (st:ByteArray):Prop where
 r:rightB kd n (s:Int) st=true
 v:RV kd n s
 sz:st.data.size≤40
 k0:0≤kd
 k5:kd≤5
 z:kd≠3→s=0
theorem rd6 (a b c d e f:Int) (i:Int) (h0:0≤i) (h1:i < 6):rd [a,b,c,d,e,f] i=a∨rd [a,b,c,d,e,f] i=b∨rd [a,b,c,d,e,f] i=c∨rd [a,b,c,d,e,f] i=d∨rd [a,b,c,d,e,f] i=e∨rd [a,b,c,d,e,f] i=f:=by
 have:i=0∨i=1∨i=2∨i=3∨i=4∨i=5:=by omega
 rcases this with rfl|rfl|rfl|rfl|rfl|rfl
 ·exact Or.inl rfl
 ·exact Or.inr (Or.inl rfl)
 ·exact Or.inr (Or.inr (Or.inl rfl))
 ·exact Or.inr (Or.inr (Or.inr (Or.inl rfl)))
 ·exact Or.inr (Or.inr (Or.inr (Or.inr (Or.inl rfl))))
 ·exact Or.inr (Or.inr (Or.inr (Or.inr (Or.inr rfl))))
theorem rd8 (a b c d e f g h:Int) (P:Int→Prop) (pa:P a) (pb:P b) (pc:P c) (pd:P d) (pe:P e) (pf:P f) (pg:P g) (ph:P h) (i:Int) (h0:0≤i) (h1:i < 8):P (rd [a,b,c,d,e,f,g,h] i):=by
 have:i=0∨i=1∨i=2∨i=3∨i=4∨i=5∨i=6∨i=7:=by omega
 rcases this with rfl|rfl|rfl|rfl|rfl|rfl|rfl|rfl
 ·exact pa
 ·exact pb
 ·exact pc
 ·exact pd
 ·exact pe
 ·exact pf
 ·exact pg
 ·exact ph
theorem I64_tdiv (a b:Int) (ha:I64 a) (hb:2≤b):I64 (wrap64 (a.tdiv b))∧wrap64 (a.tdiv b)=a.tdiv b:=by
 have h:=Int.natAbs_tdiv_le_natAbs a b
 have h2:(a.tdiv b).natAbs≤4611686018427387904:=by
  rw [Int.natAbs_tdiv]
  have h1:a.natAbs≤9223372036854775808:=by unfold I64 at ha;omega
  exact Nat.le_trans (Nat.div_le_div_left (show 2≤b.natAbs by omega) (by decide)) (by have:=Nat.div_le_div_right (c:=2) h1;simpa using this)
 have e:wrap64 (a.tdiv b)=a.tdiv b:=wrap64_of (by omega) (by omega)
 rw [e]
 exact ⟨⟨by omega,by omega⟩,rfl⟩
theorem Make_eq (kind n:Int) (st:ByteArray) (hk:I64 kind) (hn:I64 n) (hs:st.size≤140737488351232) :
  ∃ n' s' st',(∀ k,60 < k→federationlaw1_Make.f k kind n st=some (kind % 6,n',((s':Nat):Int),st'))∧Made (kind % 6) n' s' st':=by
 have hk6:=within_eq kind 6 hk (by decide) (by decide)
 have hb:=emod_bd kind 6 (by decide)
 have hd:=I64_tdiv kind 6 hk (by decide)
 have hd2:=I64_tdiv kind 36 hk (by decide)
 have h0:I64 0:=⟨by decide,by decide⟩
 have em:(⟨#[]⟩:ByteArray).data.size≤40:=by decide
 have c:kind % 6=0∨kind % 6=1∨kind % 6=2∨kind % 6=3∨kind % 6=4∨kind % 6=5:=by omega
 rcases c with c|c|c|c|c|c
 ·have hr:rightB (kind % 6) 0 ((0:Nat):Int) (⟨#[]⟩:ByteArray)=true:=by rw [c];decide +kernel
  refine ⟨0,0,_,fun k _=>?_,⟨hr,RV_right h0 hr,em,hb.1,by omega,fun _=>rfl⟩⟩
  unfold federationlaw1_Make.f federationlaw1_Make_p.f
  rw [hk6,c,if_neg (by decide),Option.bind_some,if_neg (by decide),if_neg (by decide),if_neg (by decide),if_neg (by decide),if_neg (by decide)]
  rfl
 ·have hw:=within_eq n 2 hn (by decide) (by decide)
  have hm:=emod_bd n 2 (by decide)
  have hr:rightB (kind % 6) (n % 2) ((0:Nat):Int) (⟨#[]⟩:ByteArray)=true:=by
   rw [c];unfold rightB;rw [if_neg (by decide),if_pos rfl,noS_empty,decide_eq_true (by omega)];rfl
  refine ⟨n % 2,0,_,fun k _=>?_,⟨hr,RV_right ⟨by omega,by omega⟩ hr,em,hb.1,by omega,fun _=>rfl⟩⟩
  unfold federationlaw1_Make.f federationlaw1_Make_p.f
  rw [hk6,c,if_neg (by decide),Option.bind_some,if_pos rfl,hw,Option.bind_some]
  rfl
 ·have hw:=within_eq n 100 hn (by decide) (by decide)
  have hm:=emod_bd n 100 (by decide)
  have hi:=within_eq (wrap64 (Int.tdiv kind 6)) 8 hd.1 (by decide) (by decide)
  have hj:=emod_bd (wrap64 (Int.tdiv kind 6)) 8 (by decide)
  generalize hz:wrap64 (Int.tdiv kind 6) % 8=j at hi hj
  have hrd:I64 (rd [n,0,1,-1,9223372036854775807,-9223372036854775808,wrap64 (n % 100 - 50),7] j):=by
   rw [wrap64_of (by omega) (by omega)]
   exact rd8 _ _ _ _ _ _ _ _ I64 hn ⟨by decide,by decide⟩ ⟨by decide,by decide⟩ ⟨by decide,by decide⟩ ⟨by decide,by decide⟩ ⟨by decide,by decide⟩ ⟨by omega,by omega⟩ ⟨by decide,by decide⟩ j hj.1 hj.2
  have hr:rightB (kind % 6) (rd [n,0,1,-1,9223372036854775807,-9223372036854775808,wrap64 (n % 100 - 50),7] j) ((0:Nat):Int) (⟨#[]⟩:ByteArray)=true:=by
   rw [c];unfold rightB;rw [if_neg (by decide),if_neg (by decide),if_pos rfl,noS_empty];rfl
  refine ⟨_,0,_,fun k _=>?_,⟨hr,RV_right hrd hr,em,hb.1,by omega,fun _=>rfl⟩⟩
  unfold federationlaw1_Make.f federationlaw1_Make_p.f
  rw [hk6,c,if_neg (by decide),Option.bind_some,if_neg (by decide),if_pos rfl,hw,Option.bind_some,Option.bind_some,hi,Option.bind_some,if_pos hj.1,if_pos (by simp;omega)]
  rfl
 ·have hw:=within_eq n 2000 hn (by decide) (by decide)
  have hm:=emod_bd n 2000 (by decide)
  have hw2:=within_eq n 50 hn (by decide) (by decide)
  have hm2:=emod_bd n 50 (by decide)
  have hi:=within_eq (wrap64 (Int.tdiv kind 6)) 6 hd.1 (by decide) (by decide)
  have hj:=emod_bd (wrap64 (Int.tdiv kind 6)) 6 (by decide)
  have hi2:=within_eq (wrap64 (Int.tdiv kind 36)) 7 hd2.1 (by decide) (by decide)
  have hj2:=emod_bd (wrap64 (Int.tdiv kind 36)) 7 (by decide)
  generalize hz:wrap64 (Int.tdiv kind 6) % 6=j at hi hj
  generalize hz2:wrap64 (Int.tdiv kind 36) % 7=j2 at hi2 hj2
  have ht1:=Int.tmod_lt_of_pos n (show (0:Int) < 1000000000000000 by decide)
  have ht2:=Int.tmod_lt_of_pos (-n) (show (0:Int) < 1000000000000000 by decide)
  rw [Int.neg_tmod] at ht2
  have hx : -1000000000000000 < rd [Int.tmod n 1000000000000000,wrap64 (n % 2000 - 1000),999999999999999,-999999999999999,1,wrap64 (wrap64 (n % 50*1000) - 20000)] j∧rd [Int.tmod n 1000000000000000,wrap64 (n % 2000 - 1000),999999999999999,-999999999999999,1,wrap64 (wrap64 (n % 50*1000) - 20000)] j < 1000000000000000:=by
   have e1:wrap64 (n % 2000 - 1000)=n % 2000 - 1000:=wrap64_of (by omega) (by omega)
   have e2:wrap64 (n % 50*1000)=n % 50*1000:=wrap64_of (by omega) (by omega)
   have e3:wrap64 (n % 50*1000 - 20000)=n % 50*1000 - 20000:=wrap64_of (by omega) (by omega)
   rw [e1,e2,e3]
   rcases rd6 (Int.tmod n 1000000000000000) (n % 2000 - 1000) 999999999999999 (-999999999999999) 1 (n % 50*1000 - 20000) j hj.1 hj.2 with h|h|h|h|h|h<;>rw [h]<;>omega
  obtain ⟨t,rfl⟩:∃ t:Nat,j2=(t:Int):=⟨j2.toNat,by omega⟩
  generalize hy:rd [Int.tmod n 1000000000000000,wrap64 (n % 2000 - 1000),999999999999999,-999999999999999,1,wrap64 (wrap64 (n % 50*1000) - 20000)] j=y at hx
  have hrd:=RD_red y t hx.1 hx.2 (by omega)
  have hr:=right_RD hrd
  rw [← c] at hr
  refine ⟨(red y t).1,(red y t).2,_,fun k hk=>?_,⟨hr,RV_right ⟨by have:=hrd.lo;omega,by have:=hrd.hi;omega⟩ hr,em,hb.1,by omega,fun e=>absurd c e⟩⟩
  unfold federationlaw1_Make.f federationlaw1_Make_p.f
  rw [hk6,c,if_neg (by decide),Option.bind_some,if_neg (by decide),if_neg (by decide),if_pos rfl,hw,Option.bind_some,hw2,Option.bind_some,Option.bind_some,hi,Option.bind_some,if_pos hj.1,if_pos (by simp;omega),hi2,Option.bind_some,hy,ref_Norm_eq k t y _ (by omega) (by omega) (by omega) (by omega),Option.bind_some]
 ·have hr:rightB (kind % 6) 0 ((0:Nat):Int) (mkText st)=true:=by
   have h1:=mkText_size st
   have h2:=mkText_ok st
   rw [c];unfold rightB;rw [if_neg (by decide),if_neg (by decide),if_neg (by decide),if_neg (by decide),if_pos rfl,h2,decide_eq_true (by omega)];rfl
  refine ⟨0,0,_,fun k _=>?_,⟨hr,RV_right h0 hr,mkText_size st,hb.1,by omega,fun _=>rfl⟩⟩
  unfold federationlaw1_Make.f
  rw [hk6,c,if_pos rfl,if_pos hs]
  rfl
 ·have hz:(st.size:Int)=(st.data.size:Int):=rfl
  have hm:mn (st.size:Int) 40=((min 40 st.data.size:Nat):Int):=by unfold mn;split<;>omega
  have hr:rightB (kind % 6) 0 ((0:Nat):Int) (st.extract 0 (min 40 st.data.size))=true:=by
   have h1:=extract_size st (min 40 st.data.size)
   rw [c];unfold rightB;rw [if_neg (by decide),if_neg (by decide),if_neg (by decide),if_neg (by decide),if_neg (by decide),if_pos rfl,decide_eq_true (by omega)]
  refine ⟨0,0,_,fun k _=>?_,⟨hr,RV_right h0 hr,by rw [extract_size];omega,hb.1,by omega,fun _=>rfl⟩⟩
  unfold federationlaw1_Make.f federationlaw1_Make_p.f
  rw [hk6,c,if_neg (by decide),Option.bind_some,if_neg (by decide),if_neg (by decide),if_neg (by decide),if_neg (by decide),if_pos rfl,hm,if_pos (by omega),if_pos (by omega)]
  rfl
end Go.Proofs.YtdlkibeljkapeaaGreatDoor.B
namespace Go.Proofs.YtdlkibeljkapeaaGreatDoor.Den
open Go Go.RowKit
open Go.Proofs.YtdlkibeljkapeaaGreatDoor.B
theorem Abv (c n:Int) (l:List UInt8) (hc:I64 c) (hn:I64 n) (hs:l.length≤140737488351232) :
  ∃ N S st,Made (c % 6) N S st∧Ev PG Qo [.int .i64 c, .int .i64 n, .str l] (Den.vP (c % 6,N,(S:Nat),st.data.toList)):=by
 obtain ⟨N,S,st,h1,h2⟩:=Make_eq c n ⟨l.toArray⟩ hc hn (by show l.toArray.size≤_;simpa using hs)
 refine ⟨N,S,st,h2,Ev.ofCalls (N1 _ (by kernel_rfl)) fun X w vs a1 a2 a3=>?_⟩
 obtain ⟨u,v,t,rfl,r1,r2,r3⟩:=Aic a1 a2
 rw [r1.int_inv,r2.int_inv,r3.str_inv]
 refine (federationlaw1_Make.calls 61 c n ⟨l.toArray⟩ _ _ _ _ w (h1 61 (by decide))).mono ?_
 rintro e w' ⟨he,bel⟩
 exact ⟨⟨_,he,R_val X _ _ _ _⟩,bel⟩
end Go.Proofs.YtdlkibeljkapeaaGreatDoor.Den
namespace Go.Proofs.YtdlkibeljkapeaaGreatDoor.Den
open Go Go.RowKit
end Go.Proofs.YtdlkibeljkapeaaGreatDoor.Den
namespace Go.Proofs.YtdlkibeljkapeaaGreatDoor.B
open Go.RowKit Go.Proofs.YtdlkibeljkapeaaGreatDoorW.PrintWords Go.Proofs.YtdlkibeljkapeaaGreatDoorW.PrintLast Go.Proofs.YtdlkibeljkapeaaGreatDoorW.PrintMore
attribute [local go_sem] max2_int min2_int max_two min_two max_three min_three max_four min_four
attribute [local go_sem high] own_gtr own_leq own_geq own_cell_set Option.map_some
set_option linter.unusedVariables false
set_option linter.unusedSimpArgs false
def Ep.l0:Nat → ByteArray → List Int → Int → Option (ByteArray)
 | 0,_,_,_=>none
 | k + 1,x0,x3,x4=>if x4 < (x0.size:Int) then (if 0 ≤ x4 then (if 0 ≤ ((bt x0 x4) / 16) then (if ((bt x0 x4) / 16) < 16 then (if 0 ≤ (Go.bits .and .u8 (bt x0 x4) 15) then (if (Go.bits .and .u8 (bt x0 x4) 15) < 16 then ((some (([bt (⟨#[48,49,50,51,52,53,54,55,56,57,97,98,99,100,101,102]⟩:ByteArray) ((bt x0 x4) / 16),bt (⟨#[48,49,50,51,52,53,54,55,56,57,97,98,99,100,101,102]⟩:ByteArray) (Go.bits .and .u8 (bt x0 x4) 15)]:List Int):List Int)).bind fun y101=>(if x3.length + y101.length < 140737488355328 then (Ep.l0 k x0 (x3 ++ y101) (wrap64 (x4 + 1))) else (none))) else (none)) else (none)) else (none)) else (none)) else (none)) else (some (strOfNums x3))
def Ep.f (k:Nat) (a0:ByteArray):Option (ByteArray):=Ep.l0 k a0 ([]:List Int) 0
def Ep.T5:Bool × List (List Nat × List Nat):=(true,[([],[]),([],[]),([],[]),([1,2],[1,2]),([3],[3]),([4],[4]),([],[]),([],[]),([6,7],[6,7]),([8],[8]),([9],[9]),([5,10],[5,10]),([0,11],[0,11]),([12,12,0,1,2,3,4,5,6,7,8,9,10,11,12],[0,12])])
def Ep.B5:List Nat:=[0,0,0,6,14,30,0,0,192,448,960,2046,4095,8191]
theorem Ep.tab5:rtab .any (opsOf Tryz.f53 5) = Ep.T5:=by kernel_rfl
theorem Ep.bits5:waitsOk Ep.T5.2 Ep.B5 = true:=by kernel_rfl
set_option maxHeartbeats 8000000 in
set_option maxRecDepth 100000 in
theorem Ep.calls (k:Nat) (a0:ByteArray) (r:ByteArray) (w:World) (h:Ep.f k a0 = some r) :
  Calls Tryz.prog 53 #[.string a0] w fun e w'=>e = .returned (.string r) ∧ Below w.heap.size w w':=by
 have HB:=z_ (Below.refl w.heap.size w)
 have H:(Ep.l0 k a0 ([]:List Int) 0) = some r:=h
 clear h
 have H':=z_ H
 clear H
 go_enter Tryz.func53,Tryz.ntmps53
 go_wp2
 go_loopg [3,4] k (fun kq v3 v4 w'=>∃ (x3_1:List Int) (x4_1:Int),v4 = .int .i64 x4_1 ∧ Aside0 (Ep.l0 kq a0 x3_1 x4_1 = some r) ∧ Aside0 (kq ≤ k) ∧ Aside0 (Kd.R (Kd.int .u8) 5 w' w.heap.size (fun _=>True) v3 x3_1) ∧ Aside0 (Below w.heap.size w w'))
 case atStart=>exact ⟨(([]:List Int)),(0),Hv,H',⟨Nat.le_refl _⟩,⟨by first|exact Kd.R_nil _ _ _ _ _|exact Kd.N_nil _ _ _ _ _|exact Kd.V_nil _ _ _ _ _|exact Kd.Q_nil _ _ _ _ _|exact Kd.S_nil _ _ _ _ _⟩,⟨by repeat first|(with_reducible first|exact HB.out|apply zA|apply zN|apply z1)|exact HB.out⟩⟩
 case round =>
  clear H'
  obtain ⟨x3_1,x4_1,rfl,HA,HK1,HO_3,HB⟩:=hrel
  cases gk with
  | zero=>exact absurd HA.out (by simp [Ep.l0])
  | succ k1 =>
   have H:=HA.out
   clear HA
   simp only [Ep.l0] at H
   by_cases c2:x4_1 < (a0.size:Int)
   ·rw [if_pos c2] at H
    have c2b0:decide (x4_1 < (a0.size:Int)) = true:=decide_eq_true c2
    clear c2
    by_cases c3:0 ≤ x4_1
    ·rw [if_pos c3] at H
     have c3b0:decide (0 ≤ x4_1) = true:=decide_eq_true c3
     clear c3
     obtain ⟨ji5,hji5⟩:∃ j_:Int,((bt a0 x4_1) / 16) = j_:=⟨_,rfl⟩
     replace H:(if 0 ≤ (ji5) then (if (ji5) < 16 then (if 0 ≤ (Go.bits .and .u8 (bt a0 x4_1) 15) then (if (Go.bits .and .u8 (bt a0 x4_1) 15) < 16 then ((some (([bt (⟨#[48,49,50,51,52,53,54,55,56,57,97,98,99,100,101,102]⟩:ByteArray) (ji5),bt (⟨#[48,49,50,51,52,53,54,55,56,57,97,98,99,100,101,102]⟩:ByteArray) (Go.bits .and .u8 (bt a0 x4_1) 15)]:List Int):List Int)).bind fun y101=>(if x3_1.length + y101.length < 140737488355328 then (Ep.l0 k1 a0 (x3_1 ++ y101) (wrap64 (x4_1 + 1))) else (none))) else (none)) else (none)) else (none)) else (none)) = some r:=by first|(rw [hji5] at H;exact H)|(simp only [hji5] at H ⊢;exact H)
     by_cases c6:0 ≤ (ji5)
     ·rw [if_pos c6] at H
      have c6b0:decide (0 ≤ (ji5)) = true:=decide_eq_true c6
      clear c6
      by_cases c7:(ji5) < 16
      ·rw [if_pos c7] at H
       have c7b0:decide ((ji5) < 16) = true:=decide_eq_true c7
       clear c7
       by_cases c10:0 ≤ (Go.bits .and .u8 (bt a0 x4_1) 15)
       ·rw [if_pos c10] at H
        have c10b0:decide (0 ≤ (Go.bits .and .u8 (bt a0 x4_1) 15)) = true:=decide_eq_true c10
        clear c10
        by_cases c11:(Go.bits .and .u8 (bt a0 x4_1) 15) < 16
        ·rw [if_pos c11] at H
         have c11b0:decide ((Go.bits .and .u8 (bt a0 x4_1) 15) < 16) = true:=decide_eq_true c11
         clear c11
         obtain ⟨y101,hy101⟩:∃ y_:List Int,y_ = (([bt (⟨#[48,49,50,51,52,53,54,55,56,57,97,98,99,100,101,102]⟩:ByteArray) (ji5),bt (⟨#[48,49,50,51,52,53,54,55,56,57,97,98,99,100,101,102]⟩:ByteArray) (Go.bits .and .u8 (bt a0 x4_1) 15)]:List Int)):=⟨_,rfl⟩
         replace H:(if x3_1.length + y101.length < 140737488355328 then (Ep.l0 k1 a0 (x3_1 ++ y101) (wrap64 (x4_1 + 1))) else (none)) = some r:=by first|(rw [hy101];with_reducible exact H)|(have H2_:=(Option.bind_some _ _).symm.trans H;rw [hy101];with_reducible exact H2_)|(have H2_:=(Option.bind_some _ _).symm.trans H;with_reducible exact H2_)|with_reducible exact H|(rw [hy101];exact H)|exact H
         have Ny101:=z_ hy101
         clear hy101
         by_cases c13:x3_1.length + y101.length < 140737488355328
         ·rw [if_pos c13] at H
          have LMc13:=z_ c13
          clear c13
          obtain ⟨y104,hy104⟩:∃ y_:List Int,y_ = (x3_1 ++ y101):=⟨_,rfl⟩
          replace H:(Ep.l0 k1 a0 y104 (wrap64 (x4_1 + 1))) = some r:=by first|(rw [hy104];with_reducible exact H)|(have H2_:=(Option.bind_some _ _).symm.trans H;rw [hy104];with_reducible exact H2_)|(have H2_:=(Option.bind_some _ _).symm.trans H;with_reducible exact H2_)|with_reducible exact H|(rw [hy104];exact H)|exact H
          have Ny104:=z_ hy104
          clear hy104
          have H':=z_ H
          clear H
          try go_wp2
          have n0_:=z_ (Kd.R_drew HO_3.out)
          have n1_:=z_ (z1 HB.out)
          clear HO_3
          clear HB
          have HO_3:=n0_
          have HB:=n1_
          clear n0_ n1_
          have p4:0 ≤ (x4_1:Int):=of_decide_eq_true Di
          have q4:x4_1 < (a0.size:Int):=of_decide_eq_true Di
          have hx4:=bt_at a0 x4_1
          replace p4:=eq_true p4
          replace q4:=eq_true q4
          have p8:0 ≤ ((ji5):Int):=of_decide_eq_true Di
          have q8:(ji5) < (16:Int):=of_decide_eq_true Di
          have hx8:=bt_at (⟨#[48,49,50,51,52,53,54,55,56,57,97,98,99,100,101,102]⟩:ByteArray) (ji5)
          replace p8:=eq_true p8
          replace q8:=eq_true q8
          have p9:0 ≤ (x4_1:Int):=of_decide_eq_true Di
          have q9:x4_1 < (a0.size:Int):=of_decide_eq_true Di
          have hx9:=bt_at a0 x4_1
          replace p9:=eq_true p9
          replace q9:=eq_true q9
          have p12:0 ≤ ((Go.bits .and .u8 (bt a0 x4_1) 15):Int):=of_decide_eq_true Di
          have q12:(Go.bits .and .u8 (bt a0 x4_1) 15) < (16:Int):=of_decide_eq_true Di
          have hx12:=bt_at (⟨#[48,49,50,51,52,53,54,55,56,57,97,98,99,100,101,102]⟩:ByteArray) (Go.bits .and .u8 (bt a0 x4_1) 15)
          replace p12:=eq_true p12
          replace q12:=eq_true q12
          refine start_ (n:=14) (S:=fun w'=>True) (ds:=[]) #[false,false,false,false,false,false,false,false,false,false,false,false,false,false] (by kernel_rfl) rfl rfl trivial (fun hHeld=>?_);refine with_tabW Ep.tab5 Ep.bits5 (fun HT_ HW_=>?_)
          generalize wr.drew = w14 at HO_3 HB hHeld ⊢
          refine pure_ (i:=0) (N:=some 11) (v:=?_) (a':=?_) #[true,false,false,false,false,false,false,false,false,false,false,false,false,false] rfl rfl (any_of HT_.out (by kernel_rfl)) (fun _ _ _ h=>h) (Or.inl ⟨by rfl,?_⟩) ?_ ?_
          rotate_left
          ·intro w'
           go_simp
           with_reducible rfl
          rotate_left
          ·simp only [Act.put,List.setIfInBounds_toArray,List.set_cons_zero,List.set_cons_succ,i64_w,i32_w]
           rfl
          refine pure_ (i:=1) (N:=some 12) (v:=?_) (a':=?_) #[true,true,false,false,false,false,false,false,false,false,false,false,false,false] rfl rfl (any_of HT_.out (by kernel_rfl)) (fun _ _ _ h=>h) (Or.inl ⟨by rfl,?_⟩) ?_ ?_
          rotate_left
          ·intro w'
           go_simp
           with_reducible rfl
          rotate_left
          ·simp only [Act.put,List.setIfInBounds_toArray,List.set_cons_zero,List.set_cons_succ,i64_w,i32_w]
           rfl
          refine pure_ (i:=2) (N:=some 13) (v:=?_) (a':=?_) #[true,true,true,false,false,false,false,false,false,false,false,false,false,false] rfl rfl (any_of HT_.out (by kernel_rfl)) (fun _ _ _ h=>h) (Or.inl ⟨by rfl,?_⟩) ?_ ?_
          rotate_left
          ·intro w'
           go_simp
           with_reducible rfl
          rotate_left
          ·simp only [Act.put,List.setIfInBounds_toArray,List.set_cons_zero,List.set_cons_succ,i64_w,i32_w]
           rfl
          refine pure_ (i:=6) (N:=some 17) (v:=?_) (a':=?_) #[true,true,true,false,false,false,true,false,false,false,false,false,false,false] rfl rfl (any_of HT_.out (by kernel_rfl)) (fun _ _ _ h=>h) (Or.inl ⟨by rfl,?_⟩) ?_ ?_
          rotate_left
          ·intro w'
           go_simp
           with_reducible rfl
          rotate_left
          ·simp only [Act.put,List.setIfInBounds_toArray,List.set_cons_zero,List.set_cons_succ,i64_w,i32_w]
           rfl
          refine pure_ (i:=7) (N:=some 18) (v:=?_) (a':=?_) #[true,true,true,false,false,false,true,true,false,false,false,false,false,false] rfl rfl (any_of HT_.out (by kernel_rfl)) (fun _ _ _ h=>h) (Or.inl ⟨by rfl,?_⟩) ?_ ?_
          rotate_left
          ·intro w'
           go_simp
           with_reducible rfl
          rotate_left
          ·simp only [Act.put,List.setIfInBounds_toArray,List.set_cons_zero,List.set_cons_succ,i64_w,i32_w]
           rfl
          refine take_ (i:=3) (N:=some 14) (v:=?_) (a':=?_) #[true,true,true,true,false,false,true,true,false,false,false,false,false,false] rfl rfl (take_ofW HT_.out HW_.out (by kernel_rfl)) (fun _ _ _ h=>h) (Or.inl ⟨by rfl,?_⟩) hHeld ?_ ?_
          rotate_left
          ·intro w' _
           go_simp
           with_reducible rfl
          rotate_left
          ·simp only [Act.put,List.setIfInBounds_toArray,List.set_cons_zero,List.set_cons_succ,i64_w,i32_w]
           rfl
          refine pure_ (i:=4) (N:=some 15) (v:=?_) (a':=?_) #[true,true,true,true,true,false,true,true,false,false,false,false,false,false] rfl rfl (any_of HT_.out (by kernel_rfl)) (fun _ _ _ h=>h) (Or.inl ⟨by rfl,?_⟩) ?_ ?_
          rotate_left
          ·intro w'
           go_simp
           with_reducible rfl
          rotate_left
          ·simp only [Act.put,List.setIfInBounds_toArray,List.set_cons_zero,List.set_cons_succ,i64_w,i32_w]
           rfl
          refine take_ (i:=5) (N:=some 16) (v:=?_) (a':=?_) #[true,true,true,true,true,true,true,true,false,false,false,false,false,false] rfl rfl (take_ofW HT_.out HW_.out (by kernel_rfl)) (fun _ _ _ h=>h) (Or.inl ⟨by rfl,?_⟩) hHeld ?_ ?_
          rotate_left
          ·intro w' _
           go_simp
           with_reducible rfl
          rotate_left
          ·simp only [Act.put,List.setIfInBounds_toArray,List.set_cons_zero,List.set_cons_succ,i64_w,i32_w]
           rfl
          refine take_ (i:=8) (N:=some 19) (v:=?_) (a':=?_) #[true,true,true,true,true,true,true,true,true,false,false,false,false,false] rfl rfl (take_ofW HT_.out HW_.out (by kernel_rfl)) (fun _ _ _ h=>h) (Or.inl ⟨by rfl,?_⟩) hHeld ?_ ?_
          rotate_left
          ·intro w' _
           go_simp
           with_reducible rfl
          rotate_left
          ·simp only [Act.put,List.setIfInBounds_toArray,List.set_cons_zero,List.set_cons_succ,i64_w,i32_w]
           rfl
          refine pure_ (i:=9) (N:=some 20) (v:=?_) (a':=?_) #[true,true,true,true,true,true,true,true,true,true,false,false,false,false] rfl rfl (any_of HT_.out (by kernel_rfl)) (fun _ _ _ h=>h) (Or.inl ⟨by rfl,?_⟩) ?_ ?_
          rotate_left
          ·intro w'
           go_simp
           with_reducible rfl
          rotate_left
          ·simp only [Act.put,List.setIfInBounds_toArray,List.set_cons_zero,List.set_cons_succ,i64_w,i32_w]
           rfl
          refine take_ (i:=10) (N:=some 21) (v:=?_) (a':=?_) #[true,true,true,true,true,true,true,true,true,true,true,false,false,false] rfl rfl (take_ofW HT_.out HW_.out (by kernel_rfl)) (fun _ _ _ h=>h) (Or.inl ⟨by rfl,?_⟩) hHeld ?_ ?_
          rotate_left
          ·intro w' _
           go_simp
           with_reducible rfl
          rotate_left
          ·simp only [Act.put,List.setIfInBounds_toArray,List.set_cons_zero,List.set_cons_succ,i64_w,i32_w]
           rfl
          refine one_ (i:=11) (N:=some 22) #[true,true,true,true,true,true,true,true,true,true,true,true,false,false] rfl rfl (one_of HT_.out (by kernel_rfl)) (by decide) (fun K hK=>?_)
          refine Kd.R_lit_step (Kd.int .u8) _ 5 ?hg (N:=22) ?hd (xs:=([bt (⟨#[48,49,50,51,52,53,54,55,56,57,97,98,99,100,101,102]⟩:ByteArray) (ji5),bt (⟨#[48,49,50,51,52,53,54,55,56,57,97,98,99,100,101,102]⟩:ByteArray) (Go.bits .and .u8 (bt a0 x4_1) 15)]:List Int)) (inner:=[.int .u8 (bt (⟨#[48,49,50,51,52,53,54,55,56,57,97,98,99,100,101,102]⟩:ByteArray) (ji5)), .int .u8 (bt (⟨#[48,49,50,51,52,53,54,55,56,57,97,98,99,100,101,102]⟩:ByteArray) (Go.bits .and .u8 (bt a0 x4_1) 15))]) (ok:=fun _=>True) (okp:=fun _=>True) ?hr ?hp (fun _ hk=>hk) trivial (Below.refl _ _) (Nat.le_refl _) (by simp) ?_;(case hd=>rfl);(case hg=>rfl);(case hr=>first|(go_simp;done)|(go_simp;rfl));(case hp=>exact (Reps.one (show Kd.M (Kd.int .u8) _ _ _ (bt (⟨#[48,49,50,51,52,53,54,55,56,57,97,98,99,100,101,102]⟩:ByteArray) (ji5)) [.int .u8 (bt (⟨#[48,49,50,51,52,53,54,55,56,57,97,98,99,100,101,102]⟩:ByteArray) (ji5))] from rfl) (Reps.one (show Kd.M (Kd.int .u8) _ _ _ (bt (⟨#[48,49,50,51,52,53,54,55,56,57,97,98,99,100,101,102]⟩:ByteArray) (Go.bits .and .u8 (bt a0 x4_1) 15)) [.int .u8 (bt (⟨#[48,49,50,51,52,53,54,55,56,57,97,98,99,100,101,102]⟩:ByteArray) (Go.bits .and .u8 (bt a0 x4_1) 15))] from rfl) (Reps.none _ _))))
          intro v102 w15 ho16 hb hg_ hnew_
          clear hg_ hnew_
          (first|rw [← Ny101.out] at ho16|(simp only [Int.reduceToNat] at ho16;rw [← Ny101.out] at ho16))
          have n0_:=z_ (Kd.R_elder' (by (with_reducible repeat (first|apply Kd.R_alloc|apply Kd.R_drewN|apply Kd.R_drew));exact HO_3.out) (Kd.R_base ho16) hb)
          have n1_:=z_ (Kd.R_lower (Kd.R_new' ho16 (Kd.R_lt (by (with_reducible repeat (first|apply Kd.R_alloc|apply Kd.R_drewN|apply Kd.R_drew));exact HO_3.out))) (H4 Fe))
          have n2_:=z_ (below_step Fe hb)
          clear HO_3
          clear HB
          have HO_3:=n0_
          have HO103:=n1_
          have HB:=n2_
          clear n0_ n1_ n2_
          clear hb ho16
          obtain ⟨Ao18,co18,eo18⟩:=Kd.R_slice HO103.out
          (first|subst eo18|(injection eo18 with f1_ f2_ f3_;have f4_:=f1_.symm;have f5_:=f3_.symm;clear f1_ f2_ f3_;subst f4_;subst f5_))
          refine hK.out _ _ trivial (fun hHeld=>?_)
          clear hK K
          refine norm_ (a':=?_) ?_ ?_
          rotate_left
          ·show Act.put _ (some 22) _ = _
           simp only [Act.put,List.setIfInBounds_toArray,List.set_cons_zero,List.set_cons_succ,i64_w,i32_w]
           rfl
          refine one_ (i:=12) (N:=some 23) #[true,true,true,true,true,true,true,true,true,true,true,true,true,false] rfl rfl (one_of HT_.out (by kernel_rfl)) (by decide) (fun K hK=>?_)
          refine Kd.R_append_rows_step (Kd.int .u8) (w0:=w) w.heap.size (by rfl) (.tmp 11) (.tmp 22) 62 5 (.int .u8 0) 1 rfl Tryz.underlying62 info5 rfl (by decide) (by omega) u3 x3_1 y101 _ _ _ (fun k_=>some k_ ≠ (.slice Ao18 y101.length co18:Value).ownBlock) (fun _=>False) rfl rfl ?aO ?aR (fun _ _ h=>h) (fun _ h=>h.elim) ?aF ?aB ?aS ?aL ?_
          (case aR=>repeat (first|exact (Kd.R_reads' HO103.out).2.2|(with_reducible refine Kd.C_alloc ?_ _)|(with_reducible refine Kd.C_drewN ?_ _)|(with_reducible refine Kd.C_drew ?_)))
          (case aB=>exact Fe)
          (case aF=>exact (fun k_ hk=>Kd.fresh' (Kd.R_lt (by (with_reducible repeat (first|apply Kd.R_alloc|apply Kd.R_drewN|apply Kd.R_drew));exact HO103.out)) k_ hk))
          (case aO=>exact (by (with_reducible repeat (first|apply Kd.R_alloc|apply Kd.R_drewN|apply Kd.R_drew));exact Kd.R_mono HO_3.out (fun _ hk=>hk.2)))
          (case aS=>exact (H4 Fe))
          (case aL=>have:=LMc13.out;omega)
          intro v105 w17 ho hb hg hat
          rw [← Ny104.out] at ho
          have n0_:=z_ (Kd.R_after (ok:=(fun _=>True)) (by (with_reducible repeat (first|apply Kd.R_alloc|apply Kd.R_drewN|apply Kd.R_drew));exact HO103.out) hg hat)
          have n1_:=z_ (hb)
          have n2_:=z_ (ho)
          clear HO103
          clear HB
          clear HO_3
          have HO103:=n0_
          have HB:=n1_
          have HO106:=n2_
          clear n0_ n1_ n2_
          clear ho hb hg hat
          refine hK.out _ _ trivial (fun hHeld=>?_)
          clear hK K
          refine norm_ (a':=?_) ?_ ?_
          rotate_left
          ·show Act.put _ (some 23) _ = _
           simp only [Act.put,List.setIfInBounds_toArray,List.set_cons_zero,List.set_cons_succ,i64_w,i32_w]
           rfl
          refine pure_ (i:=13) (N:=some 3) (v:=?_) (a':=?_) #[true,true,true,true,true,true,true,true,true,true,true,true,true,true] rfl rfl (any_of HT_.out (by kernel_rfl)) (fun _ _ _ h=>h) (Or.inl ⟨by rfl,?_⟩) ?_ ?_
          rotate_left
          ·intro w'
           go_simp
           with_reducible rfl
          rotate_left
          ·simp only [Act.put,List.setIfInBounds_toArray,List.set_cons_zero,List.set_cons_succ,i64_w,i32_w]
           rfl
          refine done_ (done_of HT_.out (by kernel_rfl)) ?_
          try go_wp2
          go_roundg k1
          case measure=>have:=HK1.out;omega
          case rel=>exact ⟨(y104),(wrap64 (x4_1 + 1)),Hv,(by first|with_reducible exact H'|(rw [hji5];exact H')|exact H'),⟨by have:=HK1.out;omega⟩,⟨by (with_reducible repeat (first|apply Kd.R_alloc|apply Kd.R_drewN|apply Kd.R_drew));exact Kd.R_mono HO106.out (fun _ hk=>trivial)⟩,⟨by repeat first|(with_reducible first|exact HB.out|apply zA|apply zN|apply z1)|exact HB.out⟩⟩
         ·rw [if_neg c13] at H
          exact absurd H (by simp)
        ·rw [if_neg c11] at H
         exact absurd H (by simp)
       ·rw [if_neg c10] at H
        exact absurd H (by simp)
      ·rw [if_neg c7] at H
       exact absurd H (by simp)
     ·rw [if_neg c6] at H
      exact absurd H (by simp)
    ·rw [if_neg c3] at H
     exact absurd H (by simp)
   ·rw [if_neg c2] at H
    have c2b0:decide (x4_1 < (a0.size:Int)) = false:=decide_eq_false c2
    clear c2
    obtain rfl:=Option.some.inj H
    have hcv19:=own_string (P:=Tryz.prog) Tryz.underlying62 Tryz.underlying5 Tryz.underlying9 (Kd.own_of_R HO_3.out)
    go_wp2
    go_ret
    exact ⟨by first|rfl|(simp [errW_none,errW_some] <;> rfl)|(simp [*,errW_none,errW_some] <;> rfl),by repeat first|(with_reducible first|exact HB.out|apply zA|apply zN|apply z1)|exact HB.out⟩
end Go.Proofs.YtdlkibeljkapeaaGreatDoor.B
namespace Go.Proofs.YtdlkibeljkapeaaGreatDoor.B
open Go.RowKit Go.Proofs.YtdlkibeljkapeaaGreatDoorW.PrintWords Go.Proofs.YtdlkibeljkapeaaGreatDoorW.PrintLast Go.Proofs.YtdlkibeljkapeaaGreatDoorW.PrintMore
attribute [local go_sem] max2_int min2_int max_two min_two max_three min_three max_four min_four
attribute [local go_sem high] own_gtr own_leq own_geq own_cell_set Option.map_some
set_option linter.unusedVariables false
set_option linter.unusedSimpArgs false
def Js.f (a0:Int):Option (Bool):=if a0 ≥ 48 then (some (decide (a0 ≤ 57))) else (some false)
set_option maxHeartbeats 8000000 in
set_option maxRecDepth 100000 in
theorem Js.calls (a0:Int) (r:Bool) (w:World) (h:Js.f a0 = some r) :
  Calls Tryz.prog 106 #[.int .u8 a0] w fun e w'=>e = .returned (.bool r) ∧ Drawn0 w w':=by
 have H:(if a0 ≥ 48 then (some (decide (a0 ≤ 57))) else (some false)) = some r:=h
 clear h
 by_cases c2:a0 ≥ 48
 ·rw [if_pos c2] at H
  have c2b0:decide (48 ≤ a0) = true:=decide_eq_true c2
  clear c2
  obtain rfl:=Option.some.inj H
  go_enter Tryz.func106,Tryz.ntmps106
  go_wp2
  go_ret
  exact ⟨by first|rfl|(simp;done)|(simp [*];done),by repeat (first|exact Drawn0.refl _|apply Drawn0.step)⟩
 ·rw [if_neg c2] at H
  have c2b0:decide (48 ≤ a0) = false:=decide_eq_false c2
  clear c2
  obtain rfl:=Option.some.inj H
  go_enter Tryz.func106,Tryz.ntmps106
  go_wp2
  go_ret
  exact ⟨by first|rfl|(simp;done)|(simp [*];done),by repeat (first|exact Drawn0.refl _|apply Drawn0.step)⟩
end Go.Proofs.YtdlkibeljkapeaaGreatDoor.B
