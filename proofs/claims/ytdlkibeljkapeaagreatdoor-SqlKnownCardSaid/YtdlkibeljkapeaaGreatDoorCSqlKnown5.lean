-- Written by drive.py and pack.py (programs of this proof's own) through the kit's printer; not trusted: Lean checks it.
import Derived.Test.YtdlkibeljkapeaaGreatDoorProg
import Derived.Below
import Derived.Deep.Draws
import Derived.Deep.AppendLies
import Derived.Maps.AppendAt
import Derived.OwnWalk
import Derived.Laws.BytesArg
import Derived.Laws.MakeOwn
import Derived.Laws.OwnMore
import Derived.Deep.OwnRows
import Derived.Tactics
import Derived.Lib.ConvBytes
import Derived.Laws.Slices
import Derived.WalkKit
import Derived.KernelRfl
import Derived.RowKit3
import Derived.Deep.LoopGhost
import Derived.Deep.QuietTactic
import Derived.BigQuiet
import Derived.WideLaws
import Derived.Deep.DeepCutAuto
import Derived.Deep.CutBlock
import Derived.Deep.RegionHeld3
import Derived.Laws.Rows
import Derived.Lib.AppendStr
import Derived.ArgAppend
import Derived.Laws.IdiomCopy
import Derived.OrdersHeld
import Derived.Laws.BitsLemmas
import Derived.RowKit
import Derived.Test.YtdlkibeljkapeaaGreatDoorCSqlKnown4
import Derived.Test.YtdlkibeljkapeaaGreatDoorCSqlKnown3
import Derived.Lib.Strings
import Derived.Lib.SmallJoins
import Derived.RangeFuncNested
import Derived.RangeFuncBound
import Derived.RangeFuncCalls
import Derived.RangeFuncLeaves
import Derived.Shelf.Abstract
import Derived.Shelf.RegionOpen
import Derived.OwnWalkIn
import Derived.TacticsInMore
import Derived.LoopNIn
import Derived.LoopIn
namespace Go.Proofs.YtdlkibeljkapeaaGreatDoor.B
open Go.RowKit Go.Proofs.YtdlkibeljkapeaaGreatDoorW.PrintWords Go.Proofs.YtdlkibeljkapeaaGreatDoorW.PrintLast Go.Proofs.YtdlkibeljkapeaaGreatDoorW.PrintMore
attribute [local go_sem] max2_int min2_int max_two min_two max_three min_three max_four min_four
set_option linter.unusedVariables false
set_option linter.unusedSimpArgs false
def errW:Option Int→Value
 | none=>.nilIface
 | some c=>.iface 0 (.int .i64 c)
theorem errW_none:errW none = .nilIface:=rfl
theorem errW_some (c:Int):errW (some c) = .iface 0 (.int .i64 c):=rfl
theorem info5:(Tryz.prog.info? 5).map (fun i=>(i.zero,i.size,i.bytes))=some (some (.int .u8 0),1,1):=by kernel_rfl
theorem bytesLess_swap:∀ a b:List UInt8,Op.bytesLess b a = !(Op.bytesLess a b||a==b)
 | [],[]=>by simp [Op.bytesLess]
 | [],_::_=>by simp [Op.bytesLess]
 | _::_,[]=>by simp [Op.bytesLess]
 | x::a,y::b=>by
  have ih:=bytesLess_swap a b
  simp only [Op.bytesLess]
  by_cases h1:x < y
  ·have h2:¬ y < x:=by rw [UInt8.lt_iff_toNat_lt] at *;omega
   have h3:¬ y=x:=by rintro rfl;exact h2 h1
   simp [h1,h2,h3]
  ·by_cases h2:y < x
   ·have h3:¬ x=y:=by rintro rfl;exact h1 h2
    simp [h1,h2,h3]
   ·have h3:x=y:=by
     apply UInt8.toNat_inj.1
     rw [UInt8.lt_iff_toNat_lt] at *;omega
    subst h3
    simp [h1,ih]
theorem own_gtr (t:TypeId) (a b:ByteArray):binOp .gtr t (.string a) (.string b)=pure (.bool (Op.bytesLess b.toList a.toList)):=by
 rw [bytesLess_swap a.toList b.toList];simp [binOp,Op.stringOp]
theorem own_leq (t:TypeId) (a b:ByteArray):binOp .leq t (.string a) (.string b)=pure (.bool (!Op.bytesLess b.toList a.toList)):=by
 rw [bytesLess_swap a.toList b.toList];simp [binOp,Op.stringOp]
theorem own_geq (t:TypeId) (a b:ByteArray):binOp .geq t (.string a) (.string b)=pure (.bool (!Op.bytesLess a.toList b.toList)):=by
 simp [binOp,Op.stringOp]
theorem own_cell_set (w:World) (b o b' o':Nat) (v:Value):(w.setCell ⟨b,o,none⟩ v).cell? ⟨b',o',none⟩=if b=b'∧o=o' then (w.cell? ⟨b',o',none⟩).map (fun _=>v) else w.cell? ⟨b',o',none⟩:=by
 by_cases h:b=b'∧o=o'
 ·obtain ⟨rfl,rfl⟩:=h
  rw [if_pos ⟨rfl,rfl⟩]
  cases hc:w.cell? ⟨b,o,none⟩ with
  | some u=>exact World.cell?_setCell_same w _ v hc
  | none =>
   have hn:(w.setCell ⟨b,o,none⟩ v).cell? ⟨b,o,none⟩=none:=by
    simp only [World.cell?,World.setCell,Array.getElem?_modify] at hc ⊢
    cases hb:w.heap[b]? with
    | none=>simp
    | some ob =>
     cases ob with
     | cells c e f =>
      rw [hb] at hc
      simp at hc ⊢
      omega
     | _=>simp
   rw [hn];rfl
 ·rw [if_neg h]
  refine World.cell?_setCell_other w _ _ v ?_
  intro e
  simp only [Addr.mk.injEq] at e
  exact h ⟨e.1,e.2.1⟩
end Go.Proofs.YtdlkibeljkapeaaGreatDoor.B
namespace Go.Proofs.YtdlkibeljkapeaaGreatDoor.B
open Go.RowKit Go.Proofs.YtdlkibeljkapeaaGreatDoorW.PrintWords Go.Proofs.YtdlkibeljkapeaaGreatDoorW.PrintLast Go.Proofs.YtdlkibeljkapeaaGreatDoorW.PrintMore
attribute [local go_sem] max2_int min2_int max_two min_two max_three min_three max_four min_four
attribute [local go_sem high] own_gtr own_leq own_geq own_cell_set Option.map_some
set_option linter.unusedVariables false
set_option linter.unusedSimpArgs false
def BufAt (w:World) (G:Nat) (l:List Int):Prop:=∃ cur:Array Value,∃ m:Nat,w.heap[G]? = some (.cells cur 5 (m,m+1))∧l.length≤m∧m=cur.size∧∀ j,j < l.length→cur[j]? = some (.int .u8 (l.getD j 0))
theorem BufAt.cell {w:World} {G:Nat} {l:List Int} (h:BufAt w G l) (j:Nat) (hj:j < l.length):w.cell? ⟨G,j,none⟩=some (.int .u8 (l.getD j 0)):=by
 obtain ⟨cur,m,h1,h2,h3,h4⟩:=h
 simp [World.cell?,h1,h4 j hj]
theorem BufAt.frozen {w:World} {G:Nat} {l:List Int} (h:BufAt w G l) (j:Nat) (hj:j < l.length):w.frozen? ⟨G,j,none⟩=false:=by
 obtain ⟨cur,m,h1,h2,h3,h4⟩:=h
 simp [World.frozen?,h1];omega
theorem BufAt.set {w:World} {G:Nat} {l:List Int} (h:BufAt w G l) (j:Nat) (x:Int):BufAt (w.setCell ⟨G,j,none⟩ (.int .u8 x)) G (l.set j x):=by
 obtain ⟨cur,m,h1,h2,h3,h4⟩:=h
 refine ⟨cur.setIfInBounds j (.int .u8 x),m,?_,by simpa using h2,by simpa using h3,?_⟩
 ·simp [World.setCell,Array.getElem?_modify,h1]
 ·intro i hi
  rw [List.length_set] at hi
  rw [Array.getElem?_setIfInBounds]
  by_cases e:j=i
  ·subst e
   rw [if_pos rfl,if_pos (by omega)]
   simp [List.getD,hi]
  ·rw [if_neg e,h4 i hi]
   simp [List.getD,List.getElem?_set_ne e]
theorem BufAt.drewN {w:World} {G:Nat} {l:List Int} (h:BufAt w G l) (n:Nat):BufAt (w.drewN n) G l:=by
 obtain ⟨cur,m,h1,h⟩:=h
 exact ⟨cur,m,by simpa using h1,h⟩
theorem BufAt.lt {w:World} {G:Nat} {l:List Int} (h:BufAt w G l):G < w.heap.size:=by
 obtain ⟨cur,m,h1,h⟩:=h
 exact (Array.getElem?_eq_some_iff.1 h1).1
end Go.Proofs.YtdlkibeljkapeaaGreatDoor.B
namespace Go.Proofs.YtdlkibeljkapeaaGreatDoor.B
open Go.RowKit Go.Proofs.YtdlkibeljkapeaaGreatDoorW.PrintWords Go.Proofs.YtdlkibeljkapeaaGreatDoorW.PrintLast Go.Proofs.YtdlkibeljkapeaaGreatDoorW.PrintMore
attribute [local go_sem] max2_int min2_int max_two min_two max_three min_three max_four min_four
attribute [local go_sem high] own_gtr own_leq own_geq own_cell_set Option.map_some
set_option linter.unusedVariables false
set_option linter.unusedSimpArgs false
theorem wrap64_of {x:Int} (h0 : -9223372036854775808≤x) (h1:x≤9223372036854775807):wrap64 x=x:=by
 unfold wrap64;omega
def p10 (n:Nat):Int:=(10:Int) ^ n
end Go.Proofs.YtdlkibeljkapeaaGreatDoor.B
namespace Go.Proofs.YtdlkibeljkapeaaGreatDoor.B
open Go.RowKit Go.Proofs.YtdlkibeljkapeaaGreatDoorW.PrintWords Go.Proofs.YtdlkibeljkapeaaGreatDoorW.PrintLast Go.Proofs.YtdlkibeljkapeaaGreatDoorW.PrintMore
attribute [local go_sem] max2_int min2_int max_two min_two max_three min_three max_four min_four
attribute [local go_sem high] own_gtr own_leq own_geq own_cell_set Option.map_some
set_option linter.unusedVariables false
set_option linter.unusedSimpArgs false
theorem eqA28 (d:Nat) (w:World) (x0 y0:Int) (x1 y1:Int) (x2 y2:Int) (x3 y3:ByteArray) :
  (Op.equalIn (d+2) 28 (.agg #[.int .i64 x0, .int .i64 x1, .int .i64 x2, .string x3]) (.agg #[.int .i64 y0, .int .i64 y1, .int .i64 y2, .string y3])).run Tryz.prog w = .ok (x0==y0&&(x1==y1&&(x2==y2&&(x3.toList==y3.toList)))) w:=by
 refine eqA_of Tryz.underlying28 (by kernel_rfl) ?_
 refine eqf_cons (by rfl) (by go_simp;rfl) (by go_simp;rfl) (by go_simp) ?_
 refine eqf_cons (by rfl) (by go_simp;rfl) (by go_simp;rfl) (by go_simp) ?_
 refine eqf_cons (by rfl) (by go_simp;rfl) (by go_simp;rfl) (by go_simp) ?_
 exact eqf_last (by rfl) (by go_simp;rfl) (by go_simp;rfl) (by go_simp)
end Go.Proofs.YtdlkibeljkapeaaGreatDoor.B
namespace Go.Proofs.YtdlkibeljkapeaaGreatDoor.B
open Go.RowKit Go.Proofs.YtdlkibeljkapeaaGreatDoorW.PrintWords Go.Proofs.YtdlkibeljkapeaaGreatDoorW.PrintLast Go.Proofs.YtdlkibeljkapeaaGreatDoorW.PrintMore
attribute [local go_sem] max2_int min2_int max_two min_two max_three min_three max_four min_four
attribute [local go_sem high] own_gtr own_leq own_geq own_cell_set Option.map_some
set_option linter.unusedVariables false
set_option linter.unusedSimpArgs false
def Ag.l0:Nat→ByteArray→List Int→Int→Option (ByteArray)
 | 0,_,_,_=>none
 | k+1,x0,x3,x4=>if x4 < (x0.size:Int) then (if 0≤x4 then (if 0≤((bt x0 x4) / 16) then (if ((bt x0 x4) / 16) < 16 then (if 0≤(Go.bits .and .u8 (bt x0 x4) 15) then (if (Go.bits .and .u8 (bt x0 x4) 15) < 16 then ((some (([bt (⟨#[48,49,50,51,52,53,54,55,56,57,97,98,99,100,101,102]⟩:ByteArray) ((bt x0 x4) / 16),bt (⟨#[48,49,50,51,52,53,54,55,56,57,97,98,99,100,101,102]⟩:ByteArray) (Go.bits .and .u8 (bt x0 x4) 15)]:List Int):List Int)).bind fun y101=>(if x3.length+y101.length < 140737488355328 then (Ag.l0 k x0 (x3++y101) (wrap64 (x4+1))) else (none))) else (none)) else (none)) else (none)) else (none)) else (none)) else (some (strOfNums x3))
def Ag.f (k:Nat) (a0:ByteArray):Option (ByteArray):=Ag.l0 k a0 ([]:List Int) 0
def Ag.T5:Bool × List (List Nat × List Nat):=(true,[([],[]),([],[]),([],[]),([1,2],[1,2]),([3],[3]),([4],[4]),([],[]),([],[]),([6,7],[6,7]),([8],[8]),([9],[9]),([5,10],[5,10]),([0,11],[0,11]),([12,12,0,1,2,3,4,5,6,7,8,9,10,11,12],[0,12])])
def Ag.B5:List Nat:=[0,0,0,6,14,30,0,0,192,448,960,2046,4095,8191]
theorem Ag.tab5:rtab .any (opsOf Tryz.f53 5)=Ag.T5:=by kernel_rfl
theorem Ag.bits5:waitsOk Ag.T5.2 Ag.B5=true:=by kernel_rfl
set_option maxHeartbeats 8000000 in
set_option maxRecDepth 100000 in
theorem Ag.calls (k:Nat) (a0:ByteArray) (r:ByteArray) (w:World) (h:Ag.f k a0=some r) :
  Calls Tryz.prog 53 #[.string a0] w fun e w'=>e = .returned (.string r)∧Below w.heap.size w w':=by
 have HB:=Aside0.mk (Below.refl w.heap.size w)
 have H:(Ag.l0 k a0 ([]:List Int) 0)=some r:=h
 clear h
 have H':=Aside0.mk H
 clear H
 go_enter Tryz.func53,Tryz.ntmps53
 go_wp2
 go_loopg [3,4] k (fun kq v3 v4 w'=>∃ (x3_1:List Int) (x4_1:Int),v4 = .int .i64 x4_1∧Aside0 (Ag.l0 kq a0 x3_1 x4_1=some r)∧Aside0 (kq≤k)∧Aside0 (Kd.R (Kd.int .u8) 5 w' w.heap.size (fun _=>True) v3 x3_1)∧Aside0 (Below w.heap.size w w'))
 case atStart=>exact ⟨(([]:List Int)),(0),(by first|rfl|(simp;done)|(simp [*];done)),H',⟨Nat.le_refl _⟩,⟨by first|exact Kd.R_nil _ _ _ _ _|exact Kd.N_nil _ _ _ _ _|exact Kd.V_nil _ _ _ _ _|exact Kd.Q_nil _ _ _ _ _|exact Kd.S_nil _ _ _ _ _⟩,⟨by repeat (first|(with_reducible first|exact HB.out|apply below_alloc|apply pw_below_drewN|apply below_drew1)|exact HB.out)⟩⟩
 case round =>
  clear H'
  obtain ⟨x3_1,x4_1,rfl,HA,HK1,HO_3,HB⟩:=hrel
  cases gk with
  | zero=>exact absurd HA.out (by simp [Ag.l0])
  | succ k1 =>
   have H:=HA.out
   clear HA
   simp only [Ag.l0] at H
   by_cases c2:x4_1 < (a0.size:Int)
   ·rw [if_pos c2] at H
    have c2b0:decide (x4_1 < (a0.size:Int))=true:=decide_eq_true c2
    clear c2
    by_cases c3:0≤x4_1
    ·rw [if_pos c3] at H
     have c3b0:decide (0≤x4_1)=true:=decide_eq_true c3
     clear c3
     obtain ⟨ji5,hji5⟩:∃ j_:Int,((bt a0 x4_1) / 16)=j_:=⟨_,rfl⟩
     replace H:(if 0≤(ji5) then (if (ji5) < 16 then (if 0≤(Go.bits .and .u8 (bt a0 x4_1) 15) then (if (Go.bits .and .u8 (bt a0 x4_1) 15) < 16 then ((some (([bt (⟨#[48,49,50,51,52,53,54,55,56,57,97,98,99,100,101,102]⟩:ByteArray) (ji5),bt (⟨#[48,49,50,51,52,53,54,55,56,57,97,98,99,100,101,102]⟩:ByteArray) (Go.bits .and .u8 (bt a0 x4_1) 15)]:List Int):List Int)).bind fun y101=>(if x3_1.length+y101.length < 140737488355328 then (Ag.l0 k1 a0 (x3_1++y101) (wrap64 (x4_1+1))) else (none))) else (none)) else (none)) else (none)) else (none))=some r:=by first|(rw [hji5] at H;exact H)|(simp only [hji5] at H ⊢;exact H)
     by_cases c6:0≤(ji5)
     ·rw [if_pos c6] at H
      have c6b0:decide (0≤(ji5))=true:=decide_eq_true c6
      clear c6
      by_cases c7:(ji5) < 16
      ·rw [if_pos c7] at H
       have c7b0:decide ((ji5) < 16)=true:=decide_eq_true c7
       clear c7
       by_cases c10:0≤(Go.bits .and .u8 (bt a0 x4_1) 15)
       ·rw [if_pos c10] at H
        have c10b0:decide (0≤(Go.bits .and .u8 (bt a0 x4_1) 15))=true:=decide_eq_true c10
        clear c10
        by_cases c11:(Go.bits .and .u8 (bt a0 x4_1) 15) < 16
        ·rw [if_pos c11] at H
         have c11b0:decide ((Go.bits .and .u8 (bt a0 x4_1) 15) < 16)=true:=decide_eq_true c11
         clear c11
         obtain ⟨y101,hy101⟩:∃ y_:List Int,y_=(([bt (⟨#[48,49,50,51,52,53,54,55,56,57,97,98,99,100,101,102]⟩:ByteArray) (ji5),bt (⟨#[48,49,50,51,52,53,54,55,56,57,97,98,99,100,101,102]⟩:ByteArray) (Go.bits .and .u8 (bt a0 x4_1) 15)]:List Int)):=⟨_,rfl⟩
         replace H:(if x3_1.length+y101.length < 140737488355328 then (Ag.l0 k1 a0 (x3_1++y101) (wrap64 (x4_1+1))) else (none))=some r:=by first|(rw [hy101];with_reducible exact H)|(have H2_:=(Option.bind_some _ _).symm.trans H;rw [hy101];with_reducible exact H2_)|(have H2_:=(Option.bind_some _ _).symm.trans H;with_reducible exact H2_)|with_reducible exact H|(rw [hy101];exact H)|exact H
         have Ny101:=Aside0.mk hy101
         clear hy101
         by_cases c13:x3_1.length+y101.length < 140737488355328
         ·rw [if_pos c13] at H
          have LMc13:=Aside0.mk c13
          clear c13
          obtain ⟨y104,hy104⟩:∃ y_:List Int,y_=(x3_1++y101):=⟨_,rfl⟩
          replace H:(Ag.l0 k1 a0 y104 (wrap64 (x4_1+1)))=some r:=by first|(rw [hy104];with_reducible exact H)|(have H2_:=(Option.bind_some _ _).symm.trans H;rw [hy104];with_reducible exact H2_)|(have H2_:=(Option.bind_some _ _).symm.trans H;with_reducible exact H2_)|with_reducible exact H|(rw [hy104];exact H)|exact H
          have Ny104:=Aside0.mk hy104
          clear hy104
          have H':=Aside0.mk H
          clear H
          try go_wp2
          have n0_:=Aside0.mk (Kd.R_drew HO_3.out)
          have n1_:=Aside0.mk (below_drew1 HB.out)
          clear HO_3
          clear HB
          have HO_3:=n0_
          have HB:=n1_
          clear n0_ n1_
          have p4:0≤(x4_1:Int):=of_decide_eq_true (by first|(with_reducible assumption)|assumption)
          have q4:x4_1 < (a0.size:Int):=of_decide_eq_true (by first|(with_reducible assumption)|assumption)
          have hx4:=bt_at a0 x4_1
          replace p4:=eq_true p4
          replace q4:=eq_true q4
          have p8:0≤((ji5):Int):=of_decide_eq_true (by first|(with_reducible assumption)|assumption)
          have q8:(ji5) < (16:Int):=of_decide_eq_true (by first|(with_reducible assumption)|assumption)
          have hx8:=bt_at (⟨#[48,49,50,51,52,53,54,55,56,57,97,98,99,100,101,102]⟩:ByteArray) (ji5)
          replace p8:=eq_true p8
          replace q8:=eq_true q8
          have p9:0≤(x4_1:Int):=of_decide_eq_true (by first|(with_reducible assumption)|assumption)
          have q9:x4_1 < (a0.size:Int):=of_decide_eq_true (by first|(with_reducible assumption)|assumption)
          have hx9:=bt_at a0 x4_1
          replace p9:=eq_true p9
          replace q9:=eq_true q9
          have p12:0≤((Go.bits .and .u8 (bt a0 x4_1) 15):Int):=of_decide_eq_true (by first|(with_reducible assumption)|assumption)
          have q12:(Go.bits .and .u8 (bt a0 x4_1) 15) < (16:Int):=of_decide_eq_true (by first|(with_reducible assumption)|assumption)
          have hx12:=bt_at (⟨#[48,49,50,51,52,53,54,55,56,57,97,98,99,100,101,102]⟩:ByteArray) (Go.bits .and .u8 (bt a0 x4_1) 15)
          replace p12:=eq_true p12
          replace q12:=eq_true q12
          refine start_ (n:=14) (S:=fun w'=>True) (ds:=[]) #[false,false,false,false,false,false,false,false,false,false,false,false,false,false] (by kernel_rfl) rfl rfl trivial (fun hHeld=>?_);refine with_tabW Ag.tab5 Ag.bits5 (fun HT_ HW_=>?_)
          generalize wr.drew=w14 at HO_3 HB hHeld ⊢
          refine pure_ (i:=0) (N:=some 11) (v:=?_) (a':=?_) #[true,false,false,false,false,false,false,false,false,false,false,false,false,false] rfl rfl (any_of HT_.out (by kernel_rfl)) (fun _ _ _ h=>h) (Or.inl ⟨by rfl,?_⟩) ?_ ?_
          rotate_left
          ·intro w'
           go_simp
           with_reducible rfl
          rotate_left
          ·simp only [Act.put,List.setIfInBounds_toArray,List.set_cons_zero,List.set_cons_succ,i64_w,i32_w]
           rfl
          refine pure_ (i:=1) (N:=some 12) (v:=?_) (a':=?_) #[true,true,false,false,false,false,false,false,false,false,false,false,false,false] rfl rfl (any_of HT_.out (by kernel_rfl)) (fun _ _ _ h=>h) (Or.inl ⟨by rfl,?_⟩) ?_ ?_
          rotate_left
          ·intro w'
           go_simp
           with_reducible rfl
          rotate_left
          ·simp only [Act.put,List.setIfInBounds_toArray,List.set_cons_zero,List.set_cons_succ,i64_w,i32_w]
           rfl
          refine pure_ (i:=2) (N:=some 13) (v:=?_) (a':=?_) #[true,true,true,false,false,false,false,false,false,false,false,false,false,false] rfl rfl (any_of HT_.out (by kernel_rfl)) (fun _ _ _ h=>h) (Or.inl ⟨by rfl,?_⟩) ?_ ?_
          rotate_left
          ·intro w'
           go_simp
           with_reducible rfl
          rotate_left
          ·simp only [Act.put,List.setIfInBounds_toArray,List.set_cons_zero,List.set_cons_succ,i64_w,i32_w]
           rfl
          refine pure_ (i:=6) (N:=some 17) (v:=?_) (a':=?_) #[true,true,true,false,false,false,true,false,false,false,false,false,false,false] rfl rfl (any_of HT_.out (by kernel_rfl)) (fun _ _ _ h=>h) (Or.inl ⟨by rfl,?_⟩) ?_ ?_
          rotate_left
          ·intro w'
           go_simp
           with_reducible rfl
          rotate_left
          ·simp only [Act.put,List.setIfInBounds_toArray,List.set_cons_zero,List.set_cons_succ,i64_w,i32_w]
           rfl
          refine pure_ (i:=7) (N:=some 18) (v:=?_) (a':=?_) #[true,true,true,false,false,false,true,true,false,false,false,false,false,false] rfl rfl (any_of HT_.out (by kernel_rfl)) (fun _ _ _ h=>h) (Or.inl ⟨by rfl,?_⟩) ?_ ?_
          rotate_left
          ·intro w'
           go_simp
           with_reducible rfl
          rotate_left
          ·simp only [Act.put,List.setIfInBounds_toArray,List.set_cons_zero,List.set_cons_succ,i64_w,i32_w]
           rfl
          refine take_ (i:=3) (N:=some 14) (v:=?_) (a':=?_) #[true,true,true,true,false,false,true,true,false,false,false,false,false,false] rfl rfl (take_ofW HT_.out HW_.out (by kernel_rfl)) (fun _ _ _ h=>h) (Or.inl ⟨by rfl,?_⟩) hHeld ?_ ?_
          rotate_left
          ·intro w' _
           go_simp
           with_reducible rfl
          rotate_left
          ·simp only [Act.put,List.setIfInBounds_toArray,List.set_cons_zero,List.set_cons_succ,i64_w,i32_w]
           rfl
          refine pure_ (i:=4) (N:=some 15) (v:=?_) (a':=?_) #[true,true,true,true,true,false,true,true,false,false,false,false,false,false] rfl rfl (any_of HT_.out (by kernel_rfl)) (fun _ _ _ h=>h) (Or.inl ⟨by rfl,?_⟩) ?_ ?_
          rotate_left
          ·intro w'
           go_simp
           with_reducible rfl
          rotate_left
          ·simp only [Act.put,List.setIfInBounds_toArray,List.set_cons_zero,List.set_cons_succ,i64_w,i32_w]
           rfl
          refine take_ (i:=5) (N:=some 16) (v:=?_) (a':=?_) #[true,true,true,true,true,true,true,true,false,false,false,false,false,false] rfl rfl (take_ofW HT_.out HW_.out (by kernel_rfl)) (fun _ _ _ h=>h) (Or.inl ⟨by rfl,?_⟩) hHeld ?_ ?_
          rotate_left
          ·intro w' _
           go_simp
           with_reducible rfl
          rotate_left
          ·simp only [Act.put,List.setIfInBounds_toArray,List.set_cons_zero,List.set_cons_succ,i64_w,i32_w]
           rfl
          refine take_ (i:=8) (N:=some 19) (v:=?_) (a':=?_) #[true,true,true,true,true,true,true,true,true,false,false,false,false,false] rfl rfl (take_ofW HT_.out HW_.out (by kernel_rfl)) (fun _ _ _ h=>h) (Or.inl ⟨by rfl,?_⟩) hHeld ?_ ?_
          rotate_left
          ·intro w' _
           go_simp
           with_reducible rfl
          rotate_left
          ·simp only [Act.put,List.setIfInBounds_toArray,List.set_cons_zero,List.set_cons_succ,i64_w,i32_w]
           rfl
          refine pure_ (i:=9) (N:=some 20) (v:=?_) (a':=?_) #[true,true,true,true,true,true,true,true,true,true,false,false,false,false] rfl rfl (any_of HT_.out (by kernel_rfl)) (fun _ _ _ h=>h) (Or.inl ⟨by rfl,?_⟩) ?_ ?_
          rotate_left
          ·intro w'
           go_simp
           with_reducible rfl
          rotate_left
          ·simp only [Act.put,List.setIfInBounds_toArray,List.set_cons_zero,List.set_cons_succ,i64_w,i32_w]
           rfl
          refine take_ (i:=10) (N:=some 21) (v:=?_) (a':=?_) #[true,true,true,true,true,true,true,true,true,true,true,false,false,false] rfl rfl (take_ofW HT_.out HW_.out (by kernel_rfl)) (fun _ _ _ h=>h) (Or.inl ⟨by rfl,?_⟩) hHeld ?_ ?_
          rotate_left
          ·intro w' _
           go_simp
           with_reducible rfl
          rotate_left
          ·simp only [Act.put,List.setIfInBounds_toArray,List.set_cons_zero,List.set_cons_succ,i64_w,i32_w]
           rfl
          refine one_ (i:=11) (N:=some 22) #[true,true,true,true,true,true,true,true,true,true,true,true,false,false] rfl rfl (one_of HT_.out (by kernel_rfl)) (by decide) (fun K hK=>?_)
          refine Kd.R_lit_step (Kd.int .u8) _ 5 ?hg (N:=22) ?hd (xs:=([bt (⟨#[48,49,50,51,52,53,54,55,56,57,97,98,99,100,101,102]⟩:ByteArray) (ji5),bt (⟨#[48,49,50,51,52,53,54,55,56,57,97,98,99,100,101,102]⟩:ByteArray) (Go.bits .and .u8 (bt a0 x4_1) 15)]:List Int)) (inner:=[.int .u8 (bt (⟨#[48,49,50,51,52,53,54,55,56,57,97,98,99,100,101,102]⟩:ByteArray) (ji5)), .int .u8 (bt (⟨#[48,49,50,51,52,53,54,55,56,57,97,98,99,100,101,102]⟩:ByteArray) (Go.bits .and .u8 (bt a0 x4_1) 15))]) (ok:=fun _=>True) (okp:=fun _=>True) ?hr ?hp (fun _ hk=>hk) trivial (Below.refl _ _) (Nat.le_refl _) (by simp) ?_;(case hd=>rfl);(case hg=>rfl);(case hr=>first|(go_simp;done)|(go_simp;rfl));(case hp=>exact (Reps.one (show Kd.M (Kd.int .u8) _ _ _ (bt (⟨#[48,49,50,51,52,53,54,55,56,57,97,98,99,100,101,102]⟩:ByteArray) (ji5)) [.int .u8 (bt (⟨#[48,49,50,51,52,53,54,55,56,57,97,98,99,100,101,102]⟩:ByteArray) (ji5))] from rfl) (Reps.one (show Kd.M (Kd.int .u8) _ _ _ (bt (⟨#[48,49,50,51,52,53,54,55,56,57,97,98,99,100,101,102]⟩:ByteArray) (Go.bits .and .u8 (bt a0 x4_1) 15)) [.int .u8 (bt (⟨#[48,49,50,51,52,53,54,55,56,57,97,98,99,100,101,102]⟩:ByteArray) (Go.bits .and .u8 (bt a0 x4_1) 15))] from rfl) (Reps.none _ _))))
          intro v102 w15 ho16 hb hg_ hnew_
          clear hg_ hnew_
          (first|rw [← Ny101.out] at ho16|(simp only [Int.reduceToNat] at ho16;rw [← Ny101.out] at ho16))
          have n0_:=Aside0.mk (Kd.R_elder' (by (with_reducible repeat (first|apply Kd.R_alloc|apply Kd.R_drewN|apply Kd.R_drew));exact HO_3.out) (Kd.R_base ho16) hb)
          have n1_:=Aside0.mk (Kd.R_lower (Kd.R_new' ho16 (Kd.R_lt (by (with_reducible repeat (first|apply Kd.R_alloc|apply Kd.R_drewN|apply Kd.R_drew));exact HO_3.out))) (below_size (by repeat (first|(with_reducible first|exact HB.out|apply below_alloc|apply pw_below_drewN|apply below_drew1)|exact HB.out))))
          have n2_:=Aside0.mk (below_step (by repeat (first|(with_reducible first|exact HB.out|apply below_alloc|apply pw_below_drewN|apply below_drew1)|exact HB.out)) hb)
          clear HO_3
          clear HB
          have HO_3:=n0_
          have HO103:=n1_
          have HB:=n2_
          clear n0_ n1_ n2_
          clear hb ho16
          obtain ⟨Ao18,co18,eo18⟩:=Kd.R_slice HO103.out
          (first|subst eo18|(injection eo18 with f1_ f2_ f3_;have f4_:=f1_.symm;have f5_:=f3_.symm;clear f1_ f2_ f3_;subst f4_;subst f5_))
          refine hK.out _ _ trivial (fun hHeld=>?_)
          clear hK K
          refine norm_ (a':=?_) ?_ ?_
          rotate_left
          ·show Act.put _ (some 22) _=_
           simp only [Act.put,List.setIfInBounds_toArray,List.set_cons_zero,List.set_cons_succ,i64_w,i32_w]
           rfl
          refine one_ (i:=12) (N:=some 23) #[true,true,true,true,true,true,true,true,true,true,true,true,true,false] rfl rfl (one_of HT_.out (by kernel_rfl)) (by decide) (fun K hK=>?_)
          refine Kd.R_append_rows_step (Kd.int .u8) (w0:=w) w.heap.size (by rfl) (.tmp 11) (.tmp 22) 62 5 (.int .u8 0) 1 rfl Tryz.underlying62 info5 rfl (by decide) (by omega) u3 x3_1 y101 _ _ _ (fun k_=>some k_≠(.slice Ao18 y101.length co18:Value).ownBlock) (fun _=>False) rfl rfl ?aO ?aR (fun _ _ h=>h) (fun _ h=>h.elim) ?aF ?aB ?aS ?aL ?_
          (case aR=>repeat (first|exact (Kd.R_reads' HO103.out).2.2|(with_reducible refine Kd.C_alloc ?_ _)|(with_reducible refine Kd.C_drewN ?_ _)|(with_reducible refine Kd.C_drew ?_)))
          (case aB=>exact (by repeat (first|(with_reducible first|exact HB.out|apply below_alloc|apply pw_below_drewN|apply below_drew1)|exact HB.out)))
          (case aF=>exact (fun k_ hk=>Kd.fresh' (Kd.R_lt (by (with_reducible repeat (first|apply Kd.R_alloc|apply Kd.R_drewN|apply Kd.R_drew));exact HO103.out)) k_ hk))
          (case aO=>exact (by (with_reducible repeat (first|apply Kd.R_alloc|apply Kd.R_drewN|apply Kd.R_drew));exact Kd.R_mono HO_3.out (fun _ hk=>hk.2)))
          (case aS=>exact (below_size (by repeat (first|(with_reducible first|exact HB.out|apply below_alloc|apply pw_below_drewN|apply below_drew1)|exact HB.out))))
          (case aL=>have:=LMc13.out;omega)
          intro v105 w17 ho hb hg hat
          rw [← Ny104.out] at ho
          have n0_:=Aside0.mk (Kd.R_after (ok:=(fun _=>True)) (by (with_reducible repeat (first|apply Kd.R_alloc|apply Kd.R_drewN|apply Kd.R_drew));exact HO103.out) hg hat)
          have n1_:=Aside0.mk (hb)
          have n2_:=Aside0.mk (ho)
          clear HO103
          clear HB
          clear HO_3
          have HO103:=n0_
          have HB:=n1_
          have HO106:=n2_
          clear n0_ n1_ n2_
          clear ho hb hg hat
          refine hK.out _ _ trivial (fun hHeld=>?_)
          clear hK K
          refine norm_ (a':=?_) ?_ ?_
          rotate_left
          ·show Act.put _ (some 23) _=_
           simp only [Act.put,List.setIfInBounds_toArray,List.set_cons_zero,List.set_cons_succ,i64_w,i32_w]
           rfl
          refine pure_ (i:=13) (N:=some 3) (v:=?_) (a':=?_) #[true,true,true,true,true,true,true,true,true,true,true,true,true,true] rfl rfl (any_of HT_.out (by kernel_rfl)) (fun _ _ _ h=>h) (Or.inl ⟨by rfl,?_⟩) ?_ ?_
          rotate_left
          ·intro w'
           go_simp
           with_reducible rfl
          rotate_left
          ·simp only [Act.put,List.setIfInBounds_toArray,List.set_cons_zero,List.set_cons_succ,i64_w,i32_w]
           rfl
          refine done_ (done_of HT_.out (by kernel_rfl)) ?_
          try go_wp2
          go_roundg k1
          case measure=>have:=HK1.out;omega
          case rel=>exact ⟨(y104),(wrap64 (x4_1+1)),(by first|rfl|(simp;done)|(simp [*];done)),(by first|with_reducible exact H'|(rw [hji5];exact H')|exact H'),⟨by have:=HK1.out;omega⟩,⟨by (with_reducible repeat (first|apply Kd.R_alloc|apply Kd.R_drewN|apply Kd.R_drew));exact Kd.R_mono HO106.out (fun _ hk=>trivial)⟩,⟨by repeat (first|(with_reducible first|exact HB.out|apply below_alloc|apply pw_below_drewN|apply below_drew1)|exact HB.out)⟩⟩
         ·rw [if_neg c13] at H
          exact absurd H (by simp)
        ·rw [if_neg c11] at H
         exact absurd H (by simp)
       ·rw [if_neg c10] at H
        exact absurd H (by simp)
      ·rw [if_neg c7] at H
       exact absurd H (by simp)
     ·rw [if_neg c6] at H
      exact absurd H (by simp)
    ·rw [if_neg c3] at H
     exact absurd H (by simp)
   ·rw [if_neg c2] at H
    have c2b0:decide (x4_1 < (a0.size:Int))=false:=decide_eq_false c2
    clear c2
    obtain rfl:=Option.some.inj H
    have hcv19:=own_string (P:=Tryz.prog) Tryz.underlying62 Tryz.underlying5 Tryz.underlying9 (Kd.own_of_R HO_3.out)
    go_wp2
    go_ret
    exact ⟨by first|rfl|(simp [errW_none,errW_some]<;>rfl)|(simp [*,errW_none,errW_some]<;>rfl),by repeat (first|(with_reducible first|exact HB.out|apply below_alloc|apply pw_below_drewN|apply below_drew1)|exact HB.out)⟩
end Go.Proofs.YtdlkibeljkapeaaGreatDoor.B
namespace Go.Proofs.YtdlkibeljkapeaaGreatDoor.Den
open Go Go.RowKit
open Go.Proofs.YtdlkibeljkapeaaGreatDoor.B
open Go.Proofs.YtdlkibeljkapeaaGreatDoorW.PrintWords (bt)
def Ee (n:Nat):UInt8:=([48,49,50,51,52,53,54,55,56,57,97,98,99,100,101,102]:List UInt8).getD n 0
def hx:List UInt8→List UInt8
 | []=>[]
 | c::l=>Ee (c.toNat / 16)::Ee (c.toNat % 16)::hx l
theorem J2:∀ l:List UInt8,(hx l).length=2*l.length
 | []=>rfl
 | c::l=>by simp [hx,J2 l];omega
def numsOf (l:List UInt8):List Int:=l.map fun c=>(c.toNat:Int)
theorem Oy {s:List UInt8} {i:Nat} {c:UInt8} (h:s[i]? = some c):bt ⟨s.toArray⟩ (i:Int)=c.toNat:=by
 have hl:i < s.length:=(List.getElem?_eq_some_iff.1 h).1
 have hs:i < (⟨s.toArray⟩:ByteArray).size:=by show i < s.toArray.size;simpa using hl
 have hs':(i:Int).toNat < (⟨s.toArray⟩:ByteArray).size:=by rw [Int.toNat_natCast];exact hs
 unfold bt
 rw [dif_pos hs']
 have he:(⟨s.toArray⟩:ByteArray)[(i:Int).toNat]'hs'=c:=by
  show s.toArray[(i:Int).toNat]'_=c
  simp only [Int.toNat_natCast,List.getElem_toArray]
  exact (List.getElem?_eq_some_iff.1 h).2
 rw [he]
theorem Qi:((List.range 256).all fun n=>decide (Go.bits .and .u8 (n:Int) 15=((n % 16:Nat):Int)))=true:=by decide +kernel
theorem J8:((List.range 16).all fun n=>decide (bt (⟨#[48,49,50,51,52,53,54,55,56,57,97,98,99,100,101,102]⟩:ByteArray) (n:Int)=((Ee n).toNat:Int)))=true:=by decide +kernel
theorem J7:∀ (l s:List UInt8) (i k:Nat) (acc:List Int),s.drop i=l→l.length < k→acc.length+2*l.length < 1000→s.length≤1000→Ag.l0 k ⟨s.toArray⟩ acc i=some (strOfNums (acc++numsOf (hx l)))
 | [],s,i,k,acc,hd,hk,_,hs=>by
  obtain ⟨k,rfl⟩:∃ j,k=j+1:=⟨k - 1,by omega⟩
  have hl:s.length≤i:=by
   have:=congrArg List.length hd
   simp at this;omega
  have hz:((⟨s.toArray⟩:ByteArray).size:Int)=s.length:=by show ((s.toArray.size:Nat):Int)=_;simp
  unfold Ag.l0
  rw [hz,if_neg (by omega)]
  simp [numsOf,hx]
 | c::l,s,i,k,acc,hd,hk,ha,hs=>by
  obtain ⟨k,rfl⟩:∃ j,k=j+1:=⟨k - 1,by simp at hk;omega⟩
  obtain ⟨hil,hc⟩:=Ec hd
  have hd2:s.drop (i+1)=l:=Do (g:=[c]) hd
  have hz:((⟨s.toArray⟩:ByteArray).size:Int)=s.length:=by show ((s.toArray.size:Nat):Int)=_;simp
  have hc256:=c.toNat_lt
  have e1:Go.bits .and .u8 (c.toNat:Int) 15=((c.toNat % 16:Nat):Int):=of_decide_eq_true (List.all_eq_true.1 Qi c.toNat (by rw [List.mem_range];exact hc256))
  have e2:(c.toNat:Int) / 16=((c.toNat / 16:Nat):Int):=by omega
  have ew:wrap64 ((i:Int)+1)=((i+1:Nat):Int):=by rw [wrap64_of (by omega) (by omega)];omega
  have c1:(i:Int) < (s.length:Int):=by omega
  have c2:(0:Int)≤(i:Int):=by omega
  have c3:(0:Int)≤((c.toNat / 16:Nat):Int):=by omega
  have c4:((c.toNat / 16:Nat):Int) < 16:=by omega
  have c5:(0:Int)≤((c.toNat % 16:Nat):Int):=by omega
  have c6:((c.toNat % 16:Nat):Int) < 16:=by omega
  have c7:c.toNat / 16 < 16:=by omega
  have c8:c.toNat % 16 < 16:=by omega
  have c9:acc.length+2 < 140737488355328:=by omega
  have ih:=J7 l s (i+1) k (acc++[((Ee (c.toNat / 16)).toNat:Int),((Ee (c.toNat % 16)).toNat:Int)]) hd2 (by simp at hk;omega) (by simp at ha ⊢;omega) hs
  have e3:=of_decide_eq_true (List.all_eq_true.1 J8 (c.toNat / 16) (by rw [List.mem_range];exact c7))
  have e4:=of_decide_eq_true (List.all_eq_true.1 J8 (c.toNat % 16) (by rw [List.mem_range];exact c8))
  unfold Ag.l0
  rw [hz,Oy hc,e1,e2,if_pos c1,if_pos c2,if_pos c3,if_pos c4,if_pos c5,if_pos c6,Option.bind_some,e3,e4,ew]
  refine (if_pos c9).trans ?_
  rw [ih]
  simp [numsOf,hx]
theorem strOfNums_nums (l:List UInt8):strOfNums (numsOf l)=⟨l.toArray⟩:=by
 unfold strOfNums numsOf
 have e:(l.map fun c=>(c.toNat:Int)).map (fun n=>UInt8.ofNat n.toNat)=l:=by
  rw [List.map_map]
  conv=>rhs;rw [← List.map_id l]
  refine List.map_congr_left fun c _=>?_
  simp
 rw [e]
theorem M6 {l:List UInt8} (hl:l.length≤40):Ev PG Ih [.str l] (.str (hx l)):=by
 have h:=J7 l l 0 100 [] rfl (by omega) (by simp;omega) (by omega)
 rw [List.nil_append,strOfNums_nums] at h
 refine Ev.ofCalls (fn_of _ (by kernel_rfl)) fun X w vs a1 a2 a3=>?_
 obtain ⟨u,rfl,r1⟩:=vs_one a1 a2
 rw [r1.str_inv]
 refine (Ag.calls 100 ⟨l.toArray⟩ _ w h).mono ?_
 rintro e w' ⟨he,bel⟩
 exact ⟨⟨_,he, .str ⟨(hx l).toArray⟩⟩,bel⟩
end Go.Proofs.YtdlkibeljkapeaaGreatDoor.Den
namespace Go.Proofs.YtdlkibeljkapeaaGreatDoor.Den
open Go Go.RowKit
theorem Qs:okR (.atom 3) (callF PG (fOrc noOwn [.prim Ih [.atom 0] (.atom 1), .op (.bin .add ty_string) [.str [120,39], .atom 1] (.atom 2), .op (.bin .add ty_string) [.atom 2, .str [39]] (.atom 3)]) 10 Aq [.agg [nI 5,nI 0,nI 0, .atom 0]] [])=true:=by kernel_rfl
theorem Md {l:List UInt8} (hl:l.length≤40):Ev PG Aq [vP (5,0,0,l)] (.str ([120,39]++hx l++[39])):=by
 have h:=J2 l
 exact Ev.facts (nu:=nuL [.str l, .str (hx l), .str ([120,39]++hx l), .str ([120,39]++hx l++[39])]) (args:=[.agg [nI 5,nI 0,nI 0, .atom 0]]) prog_ok (nuL_okB rfl) (okR_eq Qs) ⟨fprim (M6 hl) rfl rfl rfl,Ac (l:=[120,39]) (m:=hx l) rfl rfl (by simp;omega) rfl rfl,Ac (l:=[120,39]++hx l) (m:=[39]) rfl rfl (by simp;omega) rfl rfl,trivial⟩ rfl rfl
open Go Go.RowKit
open Go.Proofs.YtdlkibeljkapeaaGreatDoor.B
open Go.Proofs.YtdlkibeljkapeaaGreatDoorW.PrintWords (bt)
open Go Go.RowKit
section
variable {s:List UInt8} {i:Nat} {g:List UInt8}
def Hq (s:List UInt8) (i j:Nat) (v:V4):Prop:=∃ y tu,Rd s i y tu∧Be y (kw "not")=false∧∀ dp z tz,Rd s j z tz→Hi s y tu dp v z tz
def Ed:List UInt8→Bool
 | []=>true
 | c::_=>c==41||c==32||c==44||c==59||c==10
theorem L6:∀ {rest:List UInt8},Ed rest=true→C5 G3 rest=true∧C5 isDigit rest=true∧rest[0]? ≠ some 46∧rest[0]? ≠ some 39
 | [],_=>⟨rfl,rfl,by simp,by simp⟩
 | c::r,h=>by
  simp only [Ed,Bool.or_eq_true,beq_iff_eq] at h
  rcases h with (((rfl|rfl)|rfl)|rfl)|rfl<;>exact ⟨rfl,rfl,by simp,by simp⟩
variable (hs:s.length≤4000) (hi:i≤s.length) (hg:g.all Ae=true) {rest:List UInt8} (hr:Ed rest=true)
include hs hi hg hr
omit hr in
end
open Go Go.RowKit
section
variable {s:List UInt8} {i:Nat} {g:List UInt8} (hs:s.length≤4000) (hi:i≤s.length) (hg:g.all Ae=true) {rest:List UInt8} (hr:Ed rest=true)
include hs hi hg hr
theorem Ol {n:Int} (hn : -9223372036854775808≤n∧n≤9223372036854775807) (h:s.drop i=g++((Ab n++Aa n 0)++rest)):Hq s i (i+g.length+(Ab n++Aa n 0).length) (2,n,0,[]):=by
 obtain ⟨_,h2,h3,_⟩:=L6 hr
 obtain ⟨hd1,_⟩:=Jf (k:=0) hn (by decide)
 obtain ⟨hl1,hl⟩:=Eb (n:=n) (k:=0) hn (by decide)
 obtain ⟨hnum,_⟩:=Jn (n:=n) (k:=0) hn (by decide)
 have hw:Aa n 0=Af n 0:=by unfold Aa;rw [Nat.sub_zero,List.take_length]
 have hv:Aj (Ad (Aa n 0)) 0 = -(n.natAbs:Int):=by rw [Iw,hw,hnum]
 have hwl:1≤(Aa n 0).length∧(Aa n 0).length≤100:=by rw [hw];exact ⟨by omega,hl⟩
 have m1:=I4 true (s:=Aa n 0) (by omega) hd1 (by rw [hv];omega) (fun h=>by cases h)
 rw [hv] at m1
 obtain ⟨c,w,hcw⟩:∃ c w,Aa n 0=c::w:=by
  cases hcw:Aa n 0 with
  | nil=>rw [hcw] at hwl;simp at hwl
  | cons c w=>exact ⟨c,w,rfl⟩
 by_cases h0:n≥0
 ·have hsg:Ab n=[]:=if_pos h0
  have m2:=I4 false (s:=Aa n 0) (by omega) hd1 (by rw [hv];omega) (fun _=>by rw [hv];omega)
  rw [hv] at m2
  have hvv:H4 false (-(n.natAbs:Int))=n:=by show - -(n.natAbs:Int)=n;omega
  rw [hvv] at m2
  rw [hsg,List.nil_append] at h ⊢
  rw [hcw] at h hd1 m1 m2 ⊢
  have r1:=Jz (s:=s) (by omega) hi h hg hd1 h2 h3 m1
  exact ⟨_,_,r1,rfl,fun dp z tz hz=>M9 dp rfl m2 hz⟩
 ·have hsg:Ab n=[45]:=if_neg h0
  have hvv:H4 true (-(n.natAbs:Int))=n:=by show -(n.natAbs:Int)=n;omega
  rw [hvv] at m1
  rw [hsg] at h ⊢
  rw [hcw] at h hd1 m1 ⊢
  have h':s.drop i=g++(As 9++((c::w)++rest)):=by rw [h];rfl
  have r0:=N8 (s:=s) (by omega) hi 9 (by decide) (by decide) h' hg
  have h1:=Do (g:=As 9) (Do h')
  have hil:=(Ec (show s.drop (i+g.length+1)=c::(w++rest) from h1)).1
  have r1:=Jz (s:=s) (i:=i+g.length+1) (g:=[]) (by omega) (by omega) (by rw [List.nil_append];exact h1) rfl hd1 h2 h3 m1
  refine ⟨_,_,r0,rfl,fun dp z tz hz=>Na dp rfl rfl rfl (show (5:Int)≠4 by decide) (show (5:Int)≠3 by decide) rfl r1 rfl m1 ?_⟩
  have e:i+g.length+1+([]:List UInt8).length+(w.length+1)=i+g.length+([45]++c::w).length:=by simp;omega
  rw [e]
  exact hz
end
open Go Go.RowKit
open Go.Proofs.YtdlkibeljkapeaaGreatDoor.B
structure Fb (v:V4) (t:List UInt8):Prop where
 len:t.length≤200
 ne:t≠[]
 one:Ev PG Aq [Den.vP v] (.str t)
 two:Ev PG Dp [Den.vP v] (.str t)
 rd:∀ {s:List UInt8} {i:Nat} {g rest:List UInt8},s.length≤4000→i≤s.length→g.all Ae=true→Ed rest=true→s.drop i=g++(t++rest)→Hq s i (i+g.length+t.length) v
theorem Uj:(okR (.str [110,117,108,108]) (callF PG noOrc 10 Aq [Den.vP v0] [])&&okR (.str [110,117,108,108]) (callF PG noOrc 10 Dp [Den.vP v0] []))=true:=by kernel_rfl
theorem Rj:(okR (.str [116,114,117,101]) (callF PG noOrc 10 Aq [Den.vP (1,1,0,[])] [])&&okR (.str [116,114,117,101]) (callF PG noOrc 10 Dp [Den.vP (1,1,0,[])] []))=true:=by kernel_rfl
theorem I3 {f:FuncId} {v:V4} {t:List UInt8} (h:okR (.str t) (callF PG noOrc 10 f [Den.vP v] [])=true):Ev PG f [Den.vP v] (.str t) :=
 Ev.ofD (nu:=nuL []) (args:=[Den.vP v]) prog_ok (nuL_okB rfl) (noOrc_ok PG _) (okR_eq h) (fun p hp=>by simp at hp;subst hp;exact ⟨rfl,rfl⟩) rfl rfl
def Bl:Bool→List UInt8→Option Bool
 | b,[]=>some b
 | b,c::t=>if c=39 then Bl (!b) t else if c=32∧b=false then none else Bl b t
def Dx (t:List UInt8):Prop:=Bl false t=some false
theorem Gu:∀ (a t:List UInt8) (b:Bool),Bl b (a++t)=(Bl b a).bind fun c=>Bl c t
 | [],t,b=>rfl
 | c::a,t,b=>by
  simp only [List.cons_append,Bl]
  split
  ·exact Gu a t _
  ·split
   ·rfl
   ·exact Gu a t _
theorem Ip (b:Bool):∀ (a:List UInt8),(∀ c∈a,c≠39∧c≠32)→Bl b a=some b
 | [],_=>rfl
 | c::a,h=>by
  have h1:=h c (by simp)
  simp only [Bl,if_neg h1.1,if_neg (show ¬ (c=32∧b=false) from fun e=>h1.2 e.1)]
  exact Ip b a fun d hd=>h d (by simp [hd])
theorem L0 {a:List UInt8} (h:a.all isDigit=true) (n:Int):Dx (Ab n++a):=by
 unfold Dx
 rw [Gu]
 have:Bl false (Ab n)=some false:=by unfold Ab;split<;>rfl
 rw [this]
 refine Ip false a fun c hc=>?_
 have hd:=List.all_eq_true.1 h c hc
 exact ⟨fun e=>by rw [e] at hd;exact absurd hd (by decide),fun e=>by rw [e] at hd;exact absurd hd (by decide)⟩
theorem P2 {n:Int} {k:Nat} (hn : -9223372036854775808≤n∧n≤9223372036854775807) (hk:k≤6):Ab n++Aa n k≠[]:=fun e=>by
 have h:=(List.append_eq_nil_iff.1 e).2
 have hl:=(Eb hn hk).1
 have:=congrArg List.length h
 unfold Aa at this
 rw [List.length_take,List.length_nil] at this
 omega
open Go Go.RowKit
open Go.Proofs.YtdlkibeljkapeaaGreatDoor.B
def Ba:List UInt8:=[32,105,115,32,110,117,108,108]
open Go Go.RowKit
def Av:List (Int × String):=[(6, "*"),(7, "+"),(8, "-"),(9, "="),(10, "<>"),(11, "<"),(12, "<="),(13, "and"),(14, "or")]
def E7.bin (k:Int) (a b:E7):E7:=⟨nI k, .str [],nI 0,nI 0,nI 0, .str [], .slice 7 [a.pv,b.pv]⟩
theorem E7.bin_ok {k:Int} {a b:E7} (ha:a.ok=true) (hb:b.ok=true):(E7.bin k a b).ok=true:=by
 have h1:=E7.pure ha
 have h2:=E7.pure hb
 simp only [E7.bin,E7.ok,E7.L,List.all_cons,List.all_nil,PV.clean,PV.pure,PV.pureL,h1,h2,Bool.and_self]
open Go Go.RowKit
open Go Go.RowKit
inductive Xp where
 | lit (v:V4) (t:List UInt8)
 | col (w:List UInt8)
 | neg (a:Xp)
 | not (a:Xp)
 | isn (a:Xp)
 | op (i:Nat) (a b:Xp)
def Aw (i:Nat):List UInt8:=kw (Av.getD i (0, "")).2
def Xp.leaf:Xp→Bool
 | .lit _ _ | .col _=>true
 | _=>false
def A3 (b:Bool) (t:List UInt8):List UInt8:=match b with|true=>t|false=>[40]++t++[41]
def Xp.txt:Xp→List UInt8
 | .lit _ t=>t
 | .col w=>w
 | .neg a=>[45,40]++a.txt++[41]
 | .not a=>[110,111,116,32]++A3 a.leaf a.txt
 | .isn a=>A3 a.leaf a.txt++Ba
 | .op i a b=>A3 a.leaf a.txt++[32]++Aw i++[32]++A3 b.leaf b.txt
def Xp.inn (a:Xp):List UInt8:=A3 a.leaf a.txt
def Xp.e7:Xp→E7
 | .lit v _=>E7.lit v
 | .col w=>E7.col w
 | .neg a=>E7.un 4 a.e7
 | .not a=>E7.un 3 a.e7
 | .isn a=>E7.un 5 a.e7
 | .op i a b=>E7.bin (Av.getD i (0, "")).1 a.e7 b.e7
def Fv (b:Bool) (n:Nat):Nat:=match b with|true=>0|false=>n+1
def Xp.dpt:Xp→Nat
 | .lit _ _ | .col _=>0
 | .neg a=>a.dpt+2
 | .not a=>Fv a.leaf a.dpt+1
 | .isn a=>Fv a.leaf a.dpt
 | .op _ a b=>max (Fv a.leaf a.dpt) (Fv b.leaf b.dpt)
def Dj (g:List UInt8):Prop:=∃ r,g=32::r∧r.all Ae=true
theorem Dj.one:Dj [32]:=⟨[],rfl,rfl⟩
def Fh (b:Bool) (P:List UInt8→Prop) (x:List UInt8):Prop:=match b with|true=>P x|false=>∃ u,P u∧x=[40]++u++[41]
def Xp.wr:Xp→List UInt8→Prop
 | .lit _ t,x=>x=t
 | .col w,x=>x=w
 | .neg a,x=>∃ u,a.wr u∧x=[45,40]++u++[41]
 | .not a,x=>∃ g u,Dj g∧Fh a.leaf a.wr u∧x=[110,111,116]++g++u
 | .isn a,x=>∃ u g1 g2,Dj g1∧Dj g2∧Fh a.leaf a.wr u∧x=u++g1++[105,115]++g2++[110,117,108,108]
 | .op i a b,x=>∃ u g1 g2 v,Dj g1∧Dj g2∧Fh a.leaf a.wr u∧Fh b.leaf b.wr v∧x=u++g1++Aw i++g2++v
open Go Go.RowKit
def Xp.wf:Xp→Prop
 | .lit v t=>Fb v t∧Dx t
 | .col w=>∃ c r,w=c::r∧A5 c=true∧r.all G3=true∧r.length≤11∧Du.contains w=false
 | .neg a | .not a | .isn a=>a.wf
 | .op i a b=>i < 9∧a.wf∧b.wf
def Qw (s:List UInt8) (i j dp:Nat) (r:E7):Prop:=∃ y tu,Rd s i y tu∧∀ z tz,Rd s j z tz→(∀ w∈stops,Be z (kw w)=false)→Any s y tu dp r z tz
section
variable {s:List UInt8} (hs:s.length≤4000)
include hs
end
open Go Go.RowKit
section
variable {s:List UInt8} (hs:s.length≤4000)
include hs
end
open Go Go.RowKit
section
variable {s:List UInt8} (hs:s.length≤4000)
include hs
end
open Go Go.RowKit
section
variable {s:List UInt8} (hs:s.length≤4000)
include hs
omit hs in
end
open Go Go.RowKit
open Go Go.RowKit
abbrev sA (x y r:PV):Fact:=.op (.bin .add ty_string) [x,y] r
def unA (k:Int):PV:=exA (nI k) (.str []) (nI 0) (nI 0) (nI 0) (.str []) (.slice 7 [eA 30])
def biA (k:Int):PV:=exA (nI k) (.str []) (nI 0) (nI 0) (nI 0) (.str []) (.slice 7 [eA 30,eA 60])
theorem O3:okR (.atom 3) (callF PG (fOrc noOwn [.prim A1 [eA 30] (.atom 1),sA (.str [45,40]) (.atom 1) (.atom 2),sA (.atom 2) (.str [41]) (.atom 3)]) 10 A1 [unA 4] [])=true:=by kernel_rfl
theorem Pl:okR (.atom 2) (callF PG (fOrc noOwn [.prim C0 [eA 30] (.atom 1),sA (.str [110,111,116,32]) (.atom 1) (.atom 2)]) 10 A1 [unA 3] [])=true:=by kernel_rfl
theorem P0:okR (.atom 2) (callF PG (fOrc noOwn [.prim C0 [eA 30] (.atom 1),sA (.atom 1) (.str Ba) (.atom 2)]) 10 A1 [unA 5] [])=true:=by kernel_rfl
def Ul (w:String):List Fact:=[.prim C0 [eA 30] (.atom 1), .prim C0 [eA 60] (.atom 2),sA (.atom 1) (.str [32]) (.atom 3),sA (.atom 3) (.str (kw w)) (.atom 4),sA (.atom 4) (.str [32]) (.atom 5),sA (.atom 5) (.atom 2) (.atom 6)]
theorem Qz:(Av.all fun q=>okR (.atom 6) (callF PG (fOrc noOwn (Ul q.2)) 10 A1 [biA q.1] []))=true:=by kernel_rfl
theorem Pe:okR (.atom 3) (callF PG (fOrc noOwn [.prim A4 [eA 30] (.atom 1),sA (.str [45,40]) (.atom 1) (.atom 2),sA (.atom 2) (.str [41]) (.atom 3)]) 10 A4 [unA 4] [])=true:=by kernel_rfl
theorem Po:okR (.atom 2) (callF PG (fOrc noOwn [.prim C2 [eA 30] (.atom 1),sA (.str [110,111,116,32]) (.atom 1) (.atom 2)]) 10 A4 [unA 3] [])=true:=by kernel_rfl
theorem O7:okR (.atom 2) (callF PG (fOrc noOwn [.prim C2 [eA 30] (.atom 1),sA (.atom 1) (.str Ba) (.atom 2)]) 10 A4 [unA 5] [])=true:=by kernel_rfl
def U3 (w:String):List Fact:=[.prim C2 [eA 30] (.atom 1), .prim C2 [eA 60] (.atom 2),sA (.atom 1) (.str [32]) (.atom 3),sA (.atom 3) (.str (kw w)) (.atom 4),sA (.atom 4) (.str [32]) (.atom 5),sA (.atom 5) (.atom 2) (.atom 6)]
theorem P5:(Av.all fun q=>okR (.atom 6) (callF PG (fOrc noOwn (U3 q.2)) 10 A4 [biA q.1] []))=true:=by kernel_rfl
def C9:List Int:=[3,4,5,6,7,8,9,10,11,12,13,14]
def xK (k:Int):PV:=exA (nI k) (.atom 31) (.atom 32) (.atom 33) (.atom 34) (.atom 35) (.atom 36)
theorem Sm:(C9.all fun k=>okR (.atom 3) (callF PG (fOrc noOwn [.prim A1 [xK k] (.atom 1),sA (.str [40]) (.atom 1) (.atom 2),sA (.atom 2) (.str [41]) (.atom 3)]) 10 C0 [xK k] []))=true:=by kernel_rfl
theorem Uf:(C9.all fun k=>okR (.atom 3) (callF PG (fOrc noOwn [.prim A4 [xK k] (.atom 1),sA (.str [40]) (.atom 1) (.atom 2),sA (.atom 2) (.str [41]) (.atom 3)]) 10 C2 [xK k] []))=true:=by kernel_rfl
theorem R9:([1,2].all fun k=>okR (.atom 1) (callF PG (fOrc noOwn [.prim A1 [xK k] (.atom 1)]) 10 C0 [xK k] []))=true:=by kernel_rfl
theorem Rz:([1,2].all fun k=>okR (.atom 1) (callF PG (fOrc noOwn [.prim A4 [xK k] (.atom 1)]) 10 C2 [xK k] []))=true:=by kernel_rfl
theorem Qg:okR (.atom 1) (callF PG (fOrc noOwn [.prim Aq [.agg [.atom 32, .atom 33, .atom 34, .atom 35]] (.atom 1)]) 10 A1 [exA (nI 1) (.str []) (.atom 32) (.atom 33) (.atom 34) (.atom 35) .nilslice] [])=true:=by kernel_rfl
theorem Tj:okR (.atom 1) (callF PG (fOrc noOwn [.prim Dp [.agg [.atom 32, .atom 33, .atom 34, .atom 35]] (.atom 1)]) 10 A4 [exA (nI 1) (.str []) (.atom 32) (.atom 33) (.atom 34) (.atom 35) .nilslice] [])=true:=by kernel_rfl
theorem Uh:okR (.atom 1) (callF PG (fOrc noOwn []) 10 A1 [exA (nI 2) (.atom 1) (nI 0) (nI 0) (nI 0) (.str []) .nilslice] [])=true:=by kernel_rfl
theorem Tu:okR (.atom 1) (callF PG (fOrc noOwn []) 10 A4 [exA (nI 2) (.atom 1) (nI 0) (nI 0) (nI 0) (.str []) .nilslice] [])=true:=by kernel_rfl
open Go Go.RowKit
theorem e7_ok:∀ (e:Xp),e.e7.ok=true
 | .lit _ _=>rfl
 | .col _=>rfl
 | .neg a=>E7.un_ok (e7_ok a)
 | .not a=>E7.un_ok (e7_ok a)
 | .isn a=>E7.un_ok (e7_ok a)
 | .op _ a b=>E7.bin_ok (e7_ok a) (e7_ok b)
def Fj (t:List UInt8) (r:E7):List PV:=([nI 0, .str t, .str ([40]++t), .str ([40]++t++[41])]++List.replicate 26 (nI 0))++r.L
theorem Ju {t:List UInt8} {r:E7} (hr:r.ok=true):NuOk (nuL (Fj t r)):=by
 refine nuL_okB ?_
 unfold Fj
 rw [List.all_append,show (r.L.all fun p=>p.clean&&p.pure)=true from hr]
 rfl
theorem J4 {f g:FuncId} (hkk:(C9.all fun k=>okR (.atom 3) (callF PG (fOrc noOwn [.prim g [xK k] (.atom 1),sA (.str [40]) (.atom 1) (.atom 2),sA (.atom 2) (.str [41]) (.atom 3)]) 10 f [xK k] []))=true)
  {k:Int} (hk:k∈C9) {r:E7} (hr:r.ok=true) (hrk:r.k=nI k) {t:List UInt8} (hl:t.length≤100000) (h:Ev PG g [r.pv] (.str t)):Ev PG f [r.pv] (.str ([40]++t++[41])):=by
 have hpu:=E7.pure hr
 obtain ⟨k',nm,v0,v1,v2,v3,l⟩:=r
 dsimp only at hrk
 subst hrk
 exact Ev.facts (nu:=nuL (Fj t ⟨nI k,nm,v0,v1,v2,v3,l⟩)) (args:=[xK k]) prog_ok (Ju hr) (okR_eq (List.all_eq_true.1 hkk k hk))
  ⟨fprim h rfl rfl rfl,Ac (l:=[40]) (m:=t) rfl rfl (by simp;omega) rfl rfl,Ac (l:=[40]++t) (m:=[41]) rfl rfl (by simp;omega) rfl rfl,trivial⟩
  (by
   show ((PV.pure (E7.pv ⟨nI k,nm,v0,v1,v2,v3,l⟩)&&true)&&true&&true)=true
   rw [hpu];rfl) rfl
open Go Go.RowKit
def Bn (t1 t2 t3 t4 t5 t6:List UInt8) (r q:E7):List PV:=[nI 0, .str t1, .str t2, .str t3, .str t4, .str t5, .str t6]++(List.replicate 23 (nI 0)++(r.L++(List.replicate 23 (nI 0)++q.L)))
theorem B2 {t1 t2 t3 t4 t5 t6:List UInt8} {r q:E7} (hr:r.ok=true) (hq:q.ok=true):NuOk (nuL (Bn t1 t2 t3 t4 t5 t6 r q)):=by
 refine nuL_okB ?_
 unfold Bn
 rw [List.all_append,List.all_append,List.all_append,List.all_append,show (r.L.all fun p=>p.clean&&p.pure)=true from hr,show (q.L.all fun p=>p.clean&&p.pure)=true from hq]
 rfl
structure Pr (e:Xp):Prop where
 x:Ev PG A1 [e.e7.pv] (.str e.txt)
 w:Ev PG C0 [e.e7.pv] (.str e.inn)
 rx:Ev PG A4 [e.e7.pv] (.str e.txt)
 rw:Ev PG C2 [e.e7.pv] (.str e.inn)
theorem Jo {f g:FuncId} (hkk:([1,2].all fun k=>okR (.atom 1) (callF PG (fOrc noOwn [.prim g [xK k] (.atom 1)]) 10 f [xK k] []))=true)
  {k:Int} (hk:k∈[(1:Int),2]) {r:E7} (hr:r.ok=true) (hrk:r.k=nI k) {t:List UInt8} (h:Ev PG g [r.pv] (.str t)):Ev PG f [r.pv] (.str t):=by
 have hpu:=E7.pure hr
 obtain ⟨k',nm,v0,v1,v2,v3,l⟩:=r
 dsimp only at hrk
 subst hrk
 exact Ev.facts (nu:=nuL (Fj t ⟨nI k,nm,v0,v1,v2,v3,l⟩)) (args:=[xK k]) prog_ok (Ju hr) (okR_eq (List.all_eq_true.1 hkk k hk))
  ⟨fprim h rfl rfl rfl,trivial⟩
  (by
   show ((PV.pure (E7.pv ⟨nI k,nm,v0,v1,v2,v3,l⟩)&&true)&&true&&true)=true
   rw [hpu];rfl) rfl
theorem Js {e:Xp} {k:Int} (hk:k∈[(1:Int),2]) (hrk:e.e7.k=nI k) (hl:e.leaf=true) (h1:Ev PG A1 [e.e7.pv] (.str e.txt)) (h2:Ev PG A4 [e.e7.pv] (.str e.txt)):Pr e:=by
 have hi:e.inn=e.txt:=by unfold Xp.inn;rw [hl];rfl
 exact ⟨h1,by rw [hi];exact Jo R9 hk (e7_ok e) hrk h1,h2,by rw [hi];exact Jo Rz hk (e7_ok e) hrk h2⟩
theorem Fa {e:Xp} {k:Int} (hk:k∈C9) (hrk:e.e7.k=nI k) (hl:e.leaf=false) (hlen:e.txt.length≤100000) (h1:Ev PG A1 [e.e7.pv] (.str e.txt)) (h2:Ev PG A4 [e.e7.pv] (.str e.txt)):Pr e:=by
 have hi:e.inn=[40]++e.txt++[41]:=by unfold Xp.inn;rw [hl];rfl
 exact ⟨h1,by rw [hi];exact J4 Sm hk (e7_ok e) hrk hlen h1,h2,by rw [hi];exact J4 Uf hk (e7_ok e) hrk hlen h2⟩
theorem E8 (b:Bool) (t:List UInt8):(A3 b t).length≤t.length+2∧t.length≤(A3 b t).length:=by
 cases b with
 | true=>exact ⟨by show t.length≤_;omega,Nat.le_refl _⟩
 | false=>exact ⟨by simp [A3],by simp [A3];omega⟩
theorem On:∀ i,i < 9→(Aw i).length≤3:=by decide
theorem Dt:∀ (e:Xp),e.wf→e.txt.length≤100000→Pr e
 | .lit v t,hw,_=>by
  refine Js (k:=1) (by simp) rfl rfl ?_ ?_
  ·exact Ev.facts (nu:=nuL ([nI 0, .str t]++(List.replicate 30 (nI 0)++[nI v.1,nI v.2.1,nI v.2.2.1, .str v.2.2.2]))) (args:=[exA (nI 1) (.str []) (.atom 32) (.atom 33) (.atom 34) (.atom 35) .nilslice]) prog_ok (nuL_okB rfl) (okR_eq Qg) ⟨fprim hw.1.one rfl rfl rfl,trivial⟩ rfl rfl
  ·exact Ev.facts (nu:=nuL ([nI 0, .str t]++(List.replicate 30 (nI 0)++[nI v.1,nI v.2.1,nI v.2.2.1, .str v.2.2.2]))) (args:=[exA (nI 1) (.str []) (.atom 32) (.atom 33) (.atom 34) (.atom 35) .nilslice]) prog_ok (nuL_okB rfl) (okR_eq Tj) ⟨fprim hw.1.two rfl rfl rfl,trivial⟩ rfl rfl
 | .col w,_,_=>by
  refine Js (k:=2) (by simp) rfl rfl ?_ ?_
  ·exact Ev.facts (nu:=nuL [nI 0, .str w]) (args:=[exA (nI 2) (.atom 1) (nI 0) (nI 0) (nI 0) (.str []) .nilslice]) prog_ok (nuL_okB rfl) (okR_eq Uh) trivial rfl rfl
  ·exact Ev.facts (nu:=nuL [nI 0, .str w]) (args:=[exA (nI 2) (.atom 1) (nI 0) (nI 0) (nI 0) (.str []) .nilslice]) prog_ok (nuL_okB rfl) (okR_eq Tu) trivial rfl rfl
 | .neg a,hw,hl=>by
  have hl':([45,40]++a.txt++[41]).length≤100000:=hl
  simp only [List.length_append,List.length_cons,List.length_nil] at hl'
  have ha:=Dt a hw (by omega)
  have hpu:=E7.pure (E7.un_ok (k:=4) (e7_ok a))
  refine Fa (k:=4) (by decide) rfl rfl hl ?_ ?_
  ·exact Ev.facts (nu:=nuL (Bn a.txt ([45,40]++a.txt) ([45,40]++a.txt++[41]) [] [] [] a.e7 a.e7)) (args:=[unA 4]) prog_ok (B2 (e7_ok a) (e7_ok a)) (okR_eq O3)
    ⟨fprim ha.x rfl rfl rfl,Ac (l:=[45,40]) (m:=a.txt) rfl rfl (by simp;omega) rfl rfl,Ac (l:=[45,40]++a.txt) (m:=[41]) rfl rfl (by simp;omega) rfl rfl,trivial⟩
    (by
     show ((PV.pure (E7.pv (E7.un 4 a.e7))&&true)&&true&&true)=true
     rw [hpu];rfl) rfl
  ·exact Ev.facts (nu:=nuL (Bn a.txt ([45,40]++a.txt) ([45,40]++a.txt++[41]) [] [] [] a.e7 a.e7)) (args:=[unA 4]) prog_ok (B2 (e7_ok a) (e7_ok a)) (okR_eq Pe)
    ⟨fprim ha.rx rfl rfl rfl,Ac (l:=[45,40]) (m:=a.txt) rfl rfl (by simp;omega) rfl rfl,Ac (l:=[45,40]++a.txt) (m:=[41]) rfl rfl (by simp;omega) rfl rfl,trivial⟩
    (by
     show ((PV.pure (E7.pv (E7.un 4 a.e7))&&true)&&true&&true)=true
     rw [hpu];rfl) rfl
 | .not a,hw,hl=>by
  have hl':([110,111,116,32]++a.inn).length≤100000:=hl
  have hb:=E8 a.leaf a.txt
  have hi:a.inn=A3 a.leaf a.txt:=rfl
  rw [hi] at hl'
  simp only [List.length_append,List.length_cons,List.length_nil] at hl'
  have ha:=Dt a hw (by omega)
  have hpu:=E7.pure (E7.un_ok (k:=3) (e7_ok a))
  refine Fa (k:=3) (by decide) rfl rfl hl ?_ ?_
  ·exact Ev.facts (nu:=nuL (Bn a.inn ([110,111,116,32]++a.inn) [] [] [] [] a.e7 a.e7)) (args:=[unA 3]) prog_ok (B2 (e7_ok a) (e7_ok a)) (okR_eq Pl)
    ⟨fprim ha.w rfl rfl rfl,Ac (l:=[110,111,116,32]) (m:=a.inn) rfl rfl (by rw [hi];simp;omega) rfl rfl,trivial⟩
    (by
     show ((PV.pure (E7.pv (E7.un 3 a.e7))&&true)&&true&&true)=true
     rw [hpu];rfl) rfl
  ·exact Ev.facts (nu:=nuL (Bn a.inn ([110,111,116,32]++a.inn) [] [] [] [] a.e7 a.e7)) (args:=[unA 3]) prog_ok (B2 (e7_ok a) (e7_ok a)) (okR_eq Po)
    ⟨fprim ha.rw rfl rfl rfl,Ac (l:=[110,111,116,32]) (m:=a.inn) rfl rfl (by rw [hi];simp;omega) rfl rfl,trivial⟩
    (by
     show ((PV.pure (E7.pv (E7.un 3 a.e7))&&true)&&true&&true)=true
     rw [hpu];rfl) rfl
 | .isn a,hw,hl=>by
  have hl':(a.inn++Ba).length≤100000:=hl
  have hb:=E8 a.leaf a.txt
  have hi:a.inn=A3 a.leaf a.txt:=rfl
  rw [hi,List.length_append,show Ba.length=8 from rfl] at hl'
  have ha:=Dt a hw (by omega)
  have hpu:=E7.pure (E7.un_ok (k:=5) (e7_ok a))
  refine Fa (k:=5) (by decide) rfl rfl hl ?_ ?_
  ·exact Ev.facts (nu:=nuL (Bn a.inn (a.inn++Ba) [] [] [] [] a.e7 a.e7)) (args:=[unA 5]) prog_ok (B2 (e7_ok a) (e7_ok a)) (okR_eq P0)
    ⟨fprim ha.w rfl rfl rfl,Ac (l:=a.inn) (m:=Ba) rfl rfl (by rw [hi,show Ba.length=8 from rfl];omega) rfl rfl,trivial⟩
    (by
     show ((PV.pure (E7.pv (E7.un 5 a.e7))&&true)&&true&&true)=true
     rw [hpu];rfl) rfl
  ·exact Ev.facts (nu:=nuL (Bn a.inn (a.inn++Ba) [] [] [] [] a.e7 a.e7)) (args:=[unA 5]) prog_ok (B2 (e7_ok a) (e7_ok a)) (okR_eq O7)
    ⟨fprim ha.rw rfl rfl rfl,Ac (l:=a.inn) (m:=Ba) rfl rfl (by rw [hi,show Ba.length=8 from rfl];omega) rfl rfl,trivial⟩
    (by
     show ((PV.pure (E7.pv (E7.un 5 a.e7))&&true)&&true&&true)=true
     rw [hpu];rfl) rfl
 | .op k a b,hw,hl=>by
  obtain ⟨hk,hwa,hwb⟩:=hw
  have hl':(a.inn++[32]++Aw k++[32]++b.inn).length≤100000:=hl
  have h1:=E8 a.leaf a.txt
  have h2:=E8 b.leaf b.txt
  have hia:a.inn=A3 a.leaf a.txt:=rfl
  have hib:b.inn=A3 b.leaf b.txt:=rfl
  have hop:=On k hk
  simp only [List.length_append,List.length_cons,List.length_nil] at hl'
  have ha:=Dt a hwa (by rw [hia] at hl';omega)
  have hb:=Dt b hwb (by rw [hib] at hl';omega)
  have hpu:=E7.pure (E7.bin_ok (k:=(Av.getD k (0, "")).1) (e7_ok a) (e7_ok b))
  have hq:Av.getD k (0, "")∈Av:=by
   rw [List.getD_eq_getElem?_getD,List.getElem?_eq_getElem (show k < Av.length from hk)]
   exact List.getElem_mem _
  have hkx:(Av.getD k (0, "")).1∈C9:=by
   have:∀ k,k < 9→(Av.getD k (0, "")).1∈C9:=by decide
   exact this k hk
  have hS:∀ nu:Nat→PV,nu 1 = .str a.inn→nu 2 = .str b.inn→nu 3 = .str (a.inn++[32])→nu 4 = .str (a.inn++[32]++Aw k)→nu 5 = .str (a.inn++[32]++Aw k++[32])→nu 6 = .str (a.inn++[32]++Aw k++[32]++b.inn) →
    FactsOk PG nu [sA (.atom 1) (.str [32]) (.atom 3),sA (.atom 3) (.str (kw (Av.getD k (0, "")).2)) (.atom 4),sA (.atom 4) (.str [32]) (.atom 5),sA (.atom 5) (.atom 2) (.atom 6)]:=fun nu e1 e2 e3 e4 e5 e6 =>
   ⟨Ac (l:=a.inn) (m:=[32]) e1 rfl (by simp;omega) e3 (by show (nu 3).one=true;rw [e3];rfl),Ac (l:=a.inn++[32]) (m:=Aw k) e3 rfl (by simp;omega) e4 (by show (nu 4).one=true;rw [e4];rfl),
    Ac (l:=a.inn++[32]++Aw k) (m:=[32]) e4 rfl (by simp;omega) e5 (by show (nu 5).one=true;rw [e5];rfl),Ac (l:=a.inn++[32]++Aw k++[32]) (m:=b.inn) e5 e2 (by simp;omega) e6 (by show (nu 6).one=true;rw [e6];rfl),trivial⟩
  refine Fa (k:=(Av.getD k (0, "")).1) hkx rfl rfl hl ?_ ?_
  ·exact Ev.facts (nu:=nuL (Bn a.inn b.inn (a.inn++[32]) (a.inn++[32]++Aw k) (a.inn++[32]++Aw k++[32]) (a.inn++[32]++Aw k++[32]++b.inn) a.e7 b.e7)) (args:=[biA (Av.getD k (0, "")).1]) prog_ok (B2 (e7_ok a) (e7_ok b)) (okR_eq (List.all_eq_true.1 Qz _ hq))
    ⟨fprim ha.w rfl rfl rfl,fprim hb.w rfl rfl rfl,hS _ rfl rfl rfl rfl rfl rfl⟩
    (by
     show ((PV.pure (E7.pv (E7.bin (Av.getD k (0, "")).1 a.e7 b.e7))&&true)&&true&&true)=true
     rw [hpu];rfl) rfl
  ·exact Ev.facts (nu:=nuL (Bn a.inn b.inn (a.inn++[32]) (a.inn++[32]++Aw k) (a.inn++[32]++Aw k++[32]) (a.inn++[32]++Aw k++[32]++b.inn) a.e7 b.e7)) (args:=[biA (Av.getD k (0, "")).1]) prog_ok (B2 (e7_ok a) (e7_ok b)) (okR_eq (List.all_eq_true.1 P5 _ hq))
    ⟨fprim ha.rw rfl rfl rfl,fprim hb.rw rfl rfl rfl,hS _ rfl rfl rfl rfl rfl rfl⟩
    (by
     show ((PV.pure (E7.pv (E7.bin (Av.getD k (0, "")).1 a.e7 b.e7))&&true)&&true&&true)=true
     rw [hpu];rfl) rfl
open Go Go.RowKit
inductive RawT where
 | mk (k n:Int) (s:List UInt8) (nl:Nat) (l:List RawT)
mutual
def RawT.pv:RawT→PV
 | .mk k n s nl l=>.agg [nI k,nI n, .str s,(match nl with|0=>.nilslice|1=>.eslice|_=>.slice 4 (RawT.pvs l))]
def RawT.pvs:List RawT→List PV
 | []=>[]
 | r::l=>RawT.pv r::RawT.pvs l
end
def RawT.k:RawT→Int | .mk k _ _ _ _=>k
def RawT.n:RawT→Int | .mk _ n _ _ _=>n
def RawT.s:RawT→List UInt8 | .mk _ _ s _ _=>s
def RawT.nl:RawT→Nat | .mk _ _ _ nl _=>nl
def RawT.l:RawT→List RawT | .mk _ _ _ _ l=>l
def nlOk (nl:Nat) (l:List RawT):Prop:=nl < 2→l=[]
abbrev In64 (n:Int):Prop:=-9223372036854775808≤n∧n≤9223372036854775807
mutual
def RawT.ok:RawT→Prop
 | .mk k n _ nl l=>(In64 k∧In64 n)∧nlOk nl l∧RawT.oks l
def RawT.oks:List RawT→Prop
 | []=>True
 | r::l=>RawT.ok r∧RawT.oks l
end
open Go Go.RowKit
open Go.ChangeShapes Go.WideShapes Go.Joins
theorem flat4_get {α β:Type} (f:α→List β):∀ (l:List α),(∀ a∈l,(f a).length=4)→∀ j,(l.flatMap f)[j]? = (l[j / 4]?).bind fun a=>(f a)[j % 4]?
 | [],_,j=>by simp
 | a::l,h,j=>by
  have ha:=h a (by simp)
  rw [List.flatMap_cons]
  by_cases hj:j < 4
  ·rw [List.getElem?_append_left (by omega)]
   have e1:j / 4=0:=by omega
   have e2:j % 4=j:=by omega
   rw [e1,e2];rfl
  ·rw [List.getElem?_append_right (by omega),ha,flat4_get f l (fun b hb=>h b (by simp [hb])) (j - 4)]
   have e1:j / 4=(j - 4) / 4+1:=by omega
   have e2:(j - 4) % 4=j % 4:=by omega
   rw [e1,e2];rfl
open Go Go.RowKit
open Go.Proofs.YtdlkibeljkapeaaGreatDoor.B
theorem Of {n:Int} (hn : -9223372036854775808≤n∧n≤9223372036854775807):Fb (2,n,0,[]) (Ab n++Aa n 0)∧Dx (Ab n++Aa n 0):=by
 have hl:=(Eb (n:=n) (k:=0) hn (by decide)).2
 have hw:(Aa n 0).length≤100:=by unfold Aa;rw [List.length_take];omega
 have hsg:(Ab n).length≤1:=by unfold Ab;split<;>simp
 exact ⟨⟨by rw [List.length_append];omega,P2 hn (by decide),Jd hn,Ns hn,fun hs hi hg hr h=>Ol hs hi hg hr hn h⟩,L0 (Jf hn (by decide)).1 _⟩
open Go Go.RowKit
open Go.Proofs.YtdlkibeljkapeaaGreatDoor.B
theorem E7.ps {r:E7} (h:r.ok=true):(r.pv.pure&&r.pv.shut2)=true:=by
 have h1:=E7.pure h
 simp only [E7.ok,E7.L,List.all_cons,List.all_nil,Bool.and_eq_true,Bool.and_true] at h
 rw [h1,Bool.true_and]
 simp [E7.pv,E7.L,PV.shut2,PV.shut,h]
theorem wN (n:Int) (m:Int) (h0:0 < m) (h1:m≤1000):∃ k:Nat,wthn n m=k∧(k:Int) < m:=by
 obtain ⟨k,h2,h3⟩:=wthn_nat n m.toNat (by omega) (by omega)
 have e:((m.toNat:Nat):Int)=m:=by omega
 rw [e] at h2
 exact ⟨k,h2,by omega⟩
open Go Go.RowKit
open Go Go.RowKit
structure Hu (e:Xp):Prop where
 wf:e.wf
 dp:e.dpt≤12
 len:e.txt.length≤25600
open Go Go.RowKit
abbrev anyT (a:List Res) (e:Nat) (b:List Res):Fact:=.st Gf [.box 0 0] a (eA e) b
open Go Go.RowKit
inductive It where
 | w (w:List UInt8)
 | m (k:Nat)
 | x (e:Xp)
 | v (v:V4) (t:List UInt8)
def It.txt:It→List UInt8
 | .w a=>a
 | .m k=>As k
 | .x e=>e.txt
 | .v _ t=>t
def It.wr:It→List UInt8→Prop
 | .x e,t=>Xp.wr e t
 | it,t=>t=it.txt
def Lc:List UInt8→Bool
 | c::r=>A5 c&&(r.all G3&&Nat.ble r.length 11)
 | []=>false
def It.wf:It→Prop
 | .w a=>Lc a=true
 | .m k=>k < 11∧k≠7
 | .x e=>e.wf∧e.dpt≤12
 | .v b t=>Fb b t∧Dx t
abbrev Pc:=Bool × It
def sp (b:Bool):List UInt8:=match b with|true=>[32]|false=>[]
def Hw:List Pc→List UInt8
 | []=>[]
 | p::ps=>sp p.1++(p.2.txt++Hw ps)
def Tq (s:List UInt8) (i j:Nat):It→Prop
 | .w w=>∃ a,Rd s i (O5 w a) j
 | .m k=>∃ a,Rd s i (Hg k a) j
 | .x e=>Qw s i j 0 e.e7
 | .v v _=>Hq s i j v
def Chain (s:List UInt8):List Pc→Nat→Nat→Prop
 | [],i,j=>i=j
 | p::ps,i,j=>∃ k,Tq s i k p.2∧Chain s ps k j
theorem Chain.append {s:List UInt8}:∀ {ps qs:List Pc} {i j:Nat},Chain s (ps++qs) i j→∃ k,Chain s ps i k∧Chain s qs k j
 | [],_,i,_,h=>⟨i,rfl,h⟩
 | _::_,_,_,_,⟨k,h1,h2⟩=>by
  obtain ⟨m,h3,h4⟩:=Chain.append h2
  exact ⟨m,⟨k,h1,h3⟩,h4⟩
section
variable {s:List UInt8} (hs:s.length≤4000)
include hs
end
open Go Go.RowKit
def Ap (k:Int) (T:List PV) (nm col dst:List UInt8) (row:PV) (e w:E7):PV:=Dv (nI k) T (.str nm) (.str col) (.str dst) row e.L w.L
def F5 (w:Option Xp):List Pc:=match w with|none=>[]|some e=>[(true, .w (kw "where")),(true, .x e)]
def wX (w:Option Xp):E7:=match w with|none=>E7.zero|some e=>e.e7
open Go Go.RowKit
def J3:Bool→List (V4 × List UInt8)→List Pc
 | _,[]=>[]
 | b,[v]=>[(b, .v v.1 v.2)]
 | b,v::w::vs=>(b, .v v.1 v.2)::(false, .m 4)::J3 true (w::vs)
def rowP (vs:List (V4 × List UInt8)):PV:=.slice 4 (vs.map fun v=>Den.vP v.1)
theorem Nz (vs:List (V4 × List UInt8)):PV.pureL (vs.map fun v=>Den.vP v.1)=true:=by
 induction vs with
 | nil=>rfl
 | cons v vs ih=>simp only [List.map_cons,PV.pureL,ih];rfl
open Go Go.RowKit
def Cm (i:Nat):List UInt8:=[UInt8.ofNat (97+i)]
def Qv (i:Nat):PV:=.agg [.str (Cm i), .atom (1020+i), .atom (1024+i)]
inductive Tk where
 | kw (a:String)
 | nm (n:Nat)
 | nc (a:List UInt8)
 | mk (m:Nat)
def F6 (k:Int) (w:PV) (j:Nat):List Res:=D6 (.atom 1000) (nI k) (.atom (1101+8*j)) w (nI 0) (nI 0) (nI 0) (.str []) (.atom (1107+8*j)) (nI 0)
def Tk.res:Tk→Nat→List Res
 | .kw a,j=>F6 1 (.str (Den.kw a)) j
 | .nm n,j=>F6 2 (.atom (1000+n)) j
 | .nc a,j=>F6 2 (.str a) j
 | .mk m,j=>F6 5 (.str (As m)) j
def gF (j:Nat):List Res:=D6 (.atom 1000) (.atom (1000+j)) (.atom (1001+j)) (.atom (1002+j)) (.atom (1003+j)) (.atom (1004+j)) (.atom (1005+j)) (.atom (1006+j)) (.atom (1007+j)) (nI 0)
inductive CI where
 | tk (t:Tk)
 | col (i:Nat)
 | ex
 | ow (T:List PV) (r:Nat)
def CI.res:CI→Nat→List Res
 | .tk t,j=>t.res j
 | .col i,j=>Tk.res (.nc (Cm i)) j
 | .ex,j=>gF (100+8*j)
 | .ow _ _,j=>Tk.res (.mk 2) j
def Q9 (k:Nat):PV:=.slice 3 ((List.range k).map Qv)
def Lo (m:Nat):PV:=match m with|0=>.nilslice|_=>.slice 1 ((List.range m).map fun i=>.atom (1010+i))
def Uo (m:Nat):PV:=match m with|0=>.nilslice|_=>.slice 2 ((List.range m).map fun i=>.agg [.atom (1012+i), .atom (1005+i)])
def U1 (ck:Bool):List PV:=match ck with|true=>Ux 60|false=>E7.zero.L
def Hr (k:Nat) (key uq:PV) (ck:List PV) (lk:PV):List PV:=[.atom 1002,Q9 k,key,uq]++(ck++[lk])
abbrev By (a:String):CI:=.tk (.kw a)
abbrev Cj (m:Nat):CI:=.tk (.mk m)
def Kw:Nat→Nat→List CI
 | 0,_=>[]
 | n+1,i=>.col i::Cj 4::Kw n (i+1)
def K8 (k:Nat):Nat→Nat→List CI
 | 0,_=>[]
 | n+1,m=>Cj 4::By "unique" :: .ow (Hr k (.atom 1003) (Lo m) E7.zero.L .nilslice) (10+m)::K8 k n (m+1)
def Ut:Bool→List CI
 | true=>[Cj 4,By "check", Cj 2, .ex,Cj 3]
 | false=>[]
def K7 (k u:Nat) (ck:Bool):Nat→Nat→List CI
 | 0,_=>[]
 | n+1,m=>Cj 4::By "foreign" :: By "key" :: .ow (Hr k (.atom 1003) (Lo u) (U1 ck) (Uo m)) (12+m)::By "references" :: .tk (.nm (5+m))::K7 k u ck n (m+1)
def S5 (k u:Nat) (ck:Bool) (l:Nat):List CI :=
 [By "create", By "table", .tk (.nm 2),Cj 2]++(Kw k 0++([By "primary", By "key", .ow (Hr k (nI 0) .nilslice E7.zero.L .nilslice) 3]++(K8 k u 0++(Ut ck++(K7 k u ck l 0++[Cj 3])))))
open Go Go.RowKit
def A0:List String:=["bool", "int", "dec", "text", "bytes"]
def Um (nn:Bool):List Pc:=match nn with|true=>[(true, .w (kw "not")),(true, .w (kw "null"))]|false=>[]
def Qd (b:Bool) (nm:List UInt8) (t:Nat) (nn:Bool):List Pc:=[(b, .w nm),(true, .w (kw (A0.getD t "")))]++Um nn
def Cd (ty:Nat→Int) (nn:Nat→Bool) (i:Nat):PV:=.agg [.str (Cm i),nI (ty i), .bool (nn i)]
def Rm (nm:List UInt8) (k:Nat) (ty:Nat→Int) (nn:Nat→Bool) (key uq:PV) (e:E7) (lk:PV):List PV:=[.str nm, .slice 3 ((List.range k).map (Cd ty nn)),key,uq]++(e.L++[lk])
open Go Go.RowKit
def R2 (L:List PV) (f:Nat→PV) (j:Nat):PV:=match Nat.ble 1000 j with
 | true=>f (j - 1000)
 | false=>L.getD j (.bool false)
structure Bw where
 s:List UInt8
 nm:List UInt8
 n5:List UInt8
 n6:List UInt8
 R:Nat→Nat
 ty:Nat→Int
 nn:Nat→Bool
 e:E7
variable (E:Bw)
def Bw.fix (z:Sg) (tz:Nat):List PV:=[.str E.s,nI 0, .str E.nm,nI (E.R 3),nI 0, .str E.n5, .str E.n6,nI 0,nI 0,nI 0,nI (E.R 10),nI (E.R 11),nI (E.R 12),nI (E.R 13),nI 0,nI 0,nI 0,nI 0,nI 0,nI 0,
 nI (E.ty 0),nI (E.ty 1),nI (E.ty 2),nI (E.ty 3), .bool (E.nn 0), .bool (E.nn 1), .bool (E.nn 2), .bool (E.nn 3)]++(List.replicate 52 (nI 0)++sv z tz)
def Bw.fl (z:Sg) (tz:Nat) (Y:Nat→Sg) (T:Nat→Nat) (j:Nat):PV:=match Nat.ble 100 j with
 | true=>(sv (Y ((j - 100) / 8)) (T ((j - 100) / 8))).getD ((j - 100) % 8) (nI 0)
 | false=>(E.fix z tz).getD j (nI 0)
def Bw.nu (z:Sg) (tz:Nat) (Y:Nat→Sg) (T:Nat→Nat):Nat→PV:=R2 (List.replicate 60 (nI 0)++E.e.L) (E.fl z tz Y T)
def Bw.N (n:Nat):List UInt8:=match n with|2=>E.nm|5=>E.n5|6=>E.n6|_=>[]
def Bw.ev:CI→List Res→List Res→Prop
 | .tk _,a,b=>EvS PG Eo [.box 0 0] a (.tup []) b
 | .col i,a,b=>EvS PG Lr [.box 0 0] a (Cd E.ty E.nn i) b
 | .ex,a,b=>EvS PG Gf [.box 0 0] a E.e.pv b
 | .ow T r,a,b=>∃ V,(∀ z tz Y Tt,subD (E.nu z tz Y Tt) (.agg T) = .agg V)∧EvS PG Lq [.box 0 0, .agg V] a (nI (E.R r)) b
end Go.Proofs.YtdlkibeljkapeaaGreatDoor.Den
namespace Go.Proofs.YtdlkibeljkapeaaGreatDoor.Den
open Go Go.RowKit
def CI.fl:CI→Bool
 | .tk (.kw a)=>a != "create"
 | .tk (.mk m)=>Nat.beq m 2
 | .tk _=>true
 | .col i=>!Nat.beq i 0
 | .ex=>false
 | .ow _ _=>true
variable (E:Bw) (t:Nat→Nat) (e:Xp)
def Bw.pcs (c:CI):List Pc:=match c with
 | .tk (.kw a)=>[(c.fl, .w (kw a))]
 | .tk (.nm n)=>[(c.fl, .w (E.N n))]
 | .tk (.nc w)=>[(c.fl, .w w)]
 | .tk (.mk m)=>[(c.fl, .m m)]
 | .col i=>Qd c.fl (Cm i) (t i) (E.nn i)
 | .ex=>[(c.fl, .x e)]
 | .ow _ r=>[(c.fl, .m 2),(false, .w (Cm (E.R r))),(false, .m 3)]
end Go.Proofs.YtdlkibeljkapeaaGreatDoor.Den
namespace Go.Proofs.YtdlkibeljkapeaaGreatDoor.Den
open Go Go.RowKit
structure Bo (w:List UInt8):Prop where
 wd:Lc w=true
 key:Du.contains w=false
structure Tb where
 nm:List UInt8
 k:Nat
 t:Nat→Nat
 nn:Nat→Bool
 key:Nat
 u:Nat
 uq:Nat→Nat
 ck:Option Xp
 l:Nat
 lc:Nat→Nat
 ln:Nat→List UInt8
structure Tb.Wf (b:Tb):Prop where
 nm:Bo b.nm
 k:1≤b.k∧b.k≤4
 t:∀ i,b.t i < 5
 key:b.key < b.k
 u:b.u < 3
 uq:∀ i,b.uq i < b.k
 ck:∀ e,b.ck=some e→Hu e
 l:b.l < 3
 lc:∀ i,b.lc i < b.k
 ln:∀ i,Bo (b.ln i)
def Tb.R (b:Tb):Nat→Nat
 | 3=>b.key
 | 10=>b.uq 0
 | 11=>b.uq 1
 | 12=>b.lc 0
 | 13=>b.lc 1
 | _=>0
def Tb.ty (b:Tb) (i:Nat):Int:=(b.t i+1:Nat)
def Tb.env (b:Tb) (s:List UInt8):Bw:=⟨s,b.nm,b.ln 0,b.ln 1,b.R,b.ty,b.nn,wX b.ck⟩
def Tb.uqV (b:Tb) (m:Nat):PV:=match m with|0=>.nilslice|_=>.slice 1 ((List.range m).map fun i=>nI (b.uq i))
def Tb.lkV (b:Tb) (m:Nat):PV:=match m with|0=>.nilslice|_=>.slice 2 ((List.range m).map fun i=>.agg [nI (b.lc i), .str (b.ln i)])
def Tb.val (b:Tb):List PV:=Rm b.nm b.k b.ty b.nn (nI b.key) (b.uqV b.u) (wX b.ck) (b.lkV b.l)
def Tb.e (b:Tb):Xp:=b.ck.getD (.col [])
def Tb.items (b:Tb):List CI:=S5 b.k b.u b.ck.isSome b.l
def Tb.pcs (b:Tb):List Pc:=b.items.flatMap ((b.env []).pcs b.t b.e)
theorem Gv:∀ (l m:List PV),PV.pureL (l++m)=(PV.pureL l&&PV.pureL m)
 | [],_=>rfl
 | p::l,m=>by simp only [List.cons_append,PV.pureL,Gv l m,Bool.and_assoc]
open Go Go.RowKit
inductive Sx where
 | cre (b:Tb)
 | drop (nm:List UInt8)
 | link (nm col dst:List UInt8)
 | ins (nm:List UInt8) (vs:List (V4 × List UInt8))
 | upd (nm col:List UInt8) (e:Xp) (w:Option Xp)
 | del (nm:List UInt8) (w:Option Xp)
 | slc (nm:List UInt8) (w:Option Xp)
 | cou (nm:List UInt8) (w:Option Xp)
def Ko (w:Option Xp):Prop:=∀ e,w=some e→Hu e
def Sx.wf:Sx→Prop
 | .cre b=>b.Wf
 | .drop nm=>Bo nm
 | .link nm col dst=>Bo nm∧Bo col∧Bo dst
 | .ins nm vs=>Bo nm∧vs≠[]∧vs.length≤5∧∀ v∈vs,Fb v.1 v.2∧Dx v.2
 | .upd nm col e w=>Bo nm∧Bo col∧Hu e∧Ko w
 | .del nm w | .slc nm w | .cou nm w=>Bo nm∧Ko w
def Sx.pv:Sx→PV
 | .cre b=>Ap 1 b.val [] [] [] .nilslice E7.zero E7.zero
 | .drop nm=>Ap 2 Au nm [] [] .nilslice E7.zero E7.zero
 | .link nm col dst=>Ap 3 Au nm col dst .nilslice E7.zero E7.zero
 | .ins nm vs=>Ap 4 Au nm [] [] (rowP vs) E7.zero E7.zero
 | .upd nm col e w=>Ap 5 Au nm col [] .nilslice e.e7 (wX w)
 | .del nm w=>Ap 6 Au nm [] [] .nilslice E7.zero (wX w)
 | .slc nm w=>Ap 7 Au nm [] [] .nilslice E7.zero (wX w)
 | .cou nm w=>Ap 8 Au nm [] [] .nilslice E7.zero (wX w)
def Sx.pcs:Sx→List Pc
 | .cre b=>b.pcs
 | .drop nm=>[(false, .w (kw "drop")),(true, .w (kw "table")),(true, .w nm)]
 | .link nm col dst=>[(false, .w (kw "alter")),(true, .w (kw "table")),(true, .w nm),(true, .w (kw "add")),(true, .w (kw "foreign")),(true, .w (kw "key")),(true, .m 2),(false, .w col),(false, .m 3),(true, .w (kw "references")),(true, .w dst)]
 | .ins nm vs=>[(false, .w (kw "insert")),(true, .w (kw "into")),(true, .w nm),(true, .w (kw "values")),(true, .m 2)]++(J3 false vs++[(false, .m 3)])
 | .upd nm col e w=>[(false, .w (kw "update")),(true, .w nm),(true, .w (kw "set")),(true, .w col),(true, .m 6),(true, .x e)]++F5 w
 | .del nm w=>[(false, .w (kw "delete")),(true, .w (kw "from")),(true, .w nm)]++F5 w
 | .slc nm w=>[(false, .w (kw "select")),(true, .m 10),(true, .w (kw "from")),(true, .w nm)]++F5 w
 | .cou nm w=>[(false, .w (kw "select")),(true, .w (kw "count")),(false, .m 2),(false, .m 10),(false, .m 3),(true, .w (kw "from")),(true, .w nm)]++F5 w
def Sx.txt (x:Sx):List UInt8:=Hw x.pcs
open Go Go.RowKit
open Go Go.RowKit
def Sx.cells (x:Sx):List PV:=match x.pv with | .agg cs=>cs|_=>[]
open Go Go.RowKit
def Bd:List PV:=(List.range 12).map fun i=>.atom i
open Go Go.RowKit
section
variable (b:Tb)
def Tb.cb (i:Nat):List PV:=[.str (Cm i),nI (b.ty i), .bool (b.nn i)]
def Tb.base:List PV:=b.val++(b.cb 0++(b.cb 1++(b.cb 2++b.cb 3)))
def Tb.cs (i:Nat):List Res:=.box b.val::(List.range i).map fun m=>.box (b.cb m)
def Tb.colT (i:Nat):List UInt8:=Cm i++([32]++(kw (A0.getD (b.t i) "")++((match b.nn i with|true=>kw " not null" | false=>[])++kw ", ")))
def Tb.colsT:Nat→List UInt8
 | 0=>[]
 | i+1=>Tb.colsT i++b.colT i
end
theorem Jt:∀ m,m < 5→(kw (A0.getD m "")).length≤5:=by decide +kernel
section
variable {b:Tb} (hb:b.Wf)
include hb
end
open Go Go.RowKit
section
variable {b:Tb} (hb:b.Wf)
include hb
end
open Go Go.RowKit
section
variable (b:Tb)
def Tb.hd:List UInt8:=kw "create table " ++ b.nm++kw " ("
def Tb.md:List UInt8:=b.hd++b.colsT b.k++kw "primary key (" ++ Cm b.key++kw ")"
end
open Go Go.RowKit
section
variable (b:Tb)
def Tb.pt (cs:List CI):List UInt8:=Hw (cs.flatMap ((b.env []).pcs b.t b.e))
end
open Go Go.RowKit
theorem Jj {k:Int} {T:List PV} {nm col dst:List UInt8} {row:PV} {e w:E7} {nu:Nat→PV} {p:PV} (h:subD nu p=Ap k T nm col dst row e w) (hc:(Ap k T nm col dst row e w).pure=true) (ho:oneB nu p=true) (hs:p.shut=true):([p].all fun p=>argB nu p&&p.shut)=true:=by
 simp only [List.all_cons,argB,h,hc,ho,hs];rfl
open Go Go.RowKit
def Az:List (V4 × List UInt8)→List UInt8
 | []=>[]
 | [v]=>v.2
 | v::w::vs=>v.2++(kw ", " ++ Az (w::vs))
open Go Go.RowKit
open Go Go.RowKit
open Go.Proofs.YtdlkibeljkapeaaGreatDoor.B
open Go Go.RowKit
open Go.Proofs.YtdlkibeljkapeaaGreatDoor.B
theorem wK (n:Int) (m:Int) (h0:0 < m) (h1:m≤1000):∃ k:Nat,(k:Int) < m∧Ev PG f_l3_within [nI n,nI m] (nI k):=by
 obtain ⟨k,h2,h3⟩:=wN n m h0 h1
 have:=within3_ev n m (by omega)
 rw [h2] at this
 exact ⟨k,h3,this⟩
end Go.Proofs.YtdlkibeljkapeaaGreatDoor.Den
namespace Go.Proofs
open Go.RowKit Go.Shelf
attribute [local go_sem] Oper.semAt_some
namespace SqlSeq
def upto {α:Type} (f:Nat→α) (k:Nat):List α:=(List.range k).map f
theorem upto_succ {α:Type} (f:Nat→α) (k:Nat):upto f (k+1)=upto f k++[f k]:=by simp [upto,List.range_succ]
theorem upto_length {α:Type} (f:Nat→α) (k:Nat):(upto f k).length=k:=by simp [upto]
abbrev V:=Int × Int × Int × ByteArray
def A6 (x:V):Value:=.agg #[.int .i64 x.1, .int .i64 x.2.1, .int .i64 x.2.2.1, .string x.2.2.2]
def Lies (W:World) (b o:Nat) (x:V):Prop:=W.cell? ⟨b,o,none⟩=some (.int .i64 x.1)∧W.cell? ⟨b,o+1,none⟩=some (.int .i64 x.2.1)∧W.cell? ⟨b,o+2,none⟩=some (.int .i64 x.2.2.1)∧W.cell? ⟨b,o+3,none⟩=some (.string x.2.2.2)
theorem Lies.below {n₀:Nat} {A B:World} (h:Below n₀ A B) {b o:Nat} (hb:b < n₀) {x:V} (hl:Lies A b o x):Lies B b o x :=
 ⟨(h.cell (p:=⟨b,_,none⟩) hb).trans hl.1,(h.cell (p:=⟨b,_,none⟩) hb).trans hl.2.1,(h.cell (p:=⟨b,_,none⟩) hb).trans hl.2.2.1,(h.cell (p:=⟨b,_,none⟩) hb).trans hl.2.2.2⟩
set_option maxRecDepth 100000 in
set_option maxHeartbeats 4000000 in
theorem values1_in (F:Fence) (n:Nat) (h64:F.fn 64) (hro:F.round=none) (hn:1≤n) (l Bs n₀ b off len cap:Nat) {α:Type} (val:α→V) (f:Nat→α) (hreach:len*40≤140737488351232) (hb:b < n₀) (J Jx:List α→World→Prop)
  (hY:∀ pre x W,J pre W→pre.length < len→YieldAt F (n - 1) Tryz.prog l #[A6 (val x)] W fun e W' =>
   (e = .returned (.bool true)∧J (pre++[x]) W'∧Below n₀ W W')∨(e = .returned (.bool false)∧Jx (pre++[x]) W'))
  (hJ:∀ pre W o,J pre W→J pre (W.alloc o))
  (W:World) (hn₀:n₀≤W.heap.size) (hBs:W.cell? ⟨Bs,0,none⟩=some (.slice (some ⟨b,off,none⟩) len cap)) (hc:∀ j,j < len→Lies W b (off+j*4) (val (f j))) (h0:J [] W) :
  CallsIn F n Tryz.prog 64 #[.func (.yield l) #[] #[], .pointer (some ⟨Bs,0,none⟩)] W fun e W'=>(∃ v,e = .returned v) ∧
   ((∃ ys,ys=upto f len∧J ys W')∨(∃ pre,(∃ k,k≤len∧pre=upto f k)∧Jx pre W')):=by
 refine callsIn_of_wp Tryz.func64 rfl h64 ?_ hro
 simp only [Tryz.ntmps64,List.size_toArray,List.length_cons,List.length_nil,Nat.reduceAdd,Nat.reduceSub,Array.replicate_succ,Array.replicate_zero,List.push_toArray,List.append_toArray,List.nil_append,List.cons_append]
 gi_wp2
 gi_loopw [7] (fun i wr=>∃ k:Nat,k≤len∧i = .int .i64 k∧J (upto f k) wr∧Below n₀ W wr)
  (fun i _=>len - (intOf i).toNat)
 case atStart=>exact ⟨0,Nat.zero_le _,rfl,h0,Below.refl _ _⟩
 case round =>
  obtain ⟨k,hk,rfl,hJs,hnx⟩:=hrel
  by_cases hlt:k < len
  ·obtain ⟨h1,h2,h3,h4⟩:=(hc k hlt).below hnx hb
   obtain ⟨fn,tmps,assign,body,hy,hR⟩:=hY _ (f k) _ (hJ _ wr (.cells #[.int .i64 (val (f k)).1, .int .i64 (val (f k)).2.1, .int .i64 (val (f k)).2.2.1, .string (val (f k)).2.2.2] 28) hJs) (by rw [upto_length];exact hlt)
   unfold A6 at hy
   gi_wp2
   refine hR.mono ?_
   rintro e W3 (⟨rfl,hJ3,hk3⟩|⟨rfl,hJx3⟩)
   ·gi_wp2
    go_roundw
    case rel=>exact ⟨k+1,by omega,by simp,by rw [upto_succ];exact hJ3,(hnx.alloc (by have:=hnx.size;omega) _).trans hk3⟩
    case measure=>simp [intOf];omega
   ·gi_wp2
    refine bodyPost_ret (results_none rfl _ _ _) rfl ?_
    exact ⟨⟨_,rfl⟩, .inr ⟨_,⟨k+1,by omega,(upto_succ _ _).symm⟩,hJx3⟩⟩
  ·obtain rfl:k=len:=by omega
   gi_wp2
   go_end0
   exact ⟨⟨_,rfl⟩, .inl ⟨_,rfl,hJs⟩⟩
theorem Lies.own {B:Nat} (b o:Nat) (x:V):OwnFrom B (fun (_:Unit) W=>Lies W b o x):=fun _ _ _ _ hs hg hr =>
 ⟨cell_kept hs.1 hg fun r e=>(hr r e).2,cell_kept hs.2.1 hg fun r e=>(hr r e).2,cell_kept hs.2.2.1 hg fun r e=>(hr r e).2,cell_kept hs.2.2.2 hg fun r e=>(hr r e).2⟩
def stepS (o s:ByteArray):ByteArray:=(if o=⟨#[]⟩ then o else o++⟨#[44,32]⟩)++s
def joinS (l:List ByteArray):ByteArray:=l.foldl stepS ⟨#[]⟩
theorem Iy (l:List ByteArray) (s:ByteArray):joinS (l++[s])=stepS (joinS l) s:=by simp [joinS]
theorem values_stops (n:Nat) (hn:1≤n) (Bs n₀ b off len cap:Nat) {α:Type} (val:α→V) (f:Nat→α) (hreach:len*40≤140737488351232) (w:World) (hb:b < n₀) (hn₀:n₀≤w.heap.size) (hBs:Bs < w.heap.size)
  (hBc:w.cell? ⟨Bs,0,none⟩=some (.slice (some ⟨b,off,none⟩) len cap)) (hc:∀ j,j < len→Lies w b (off+j*4) (val (f j))) :
  SeqStopsK Fence.wide n Tryz.prog 64 #[.pointer (some ⟨Bs,0,none⟩)] (fun x:α=>#[A6 (val x)]) (Below n₀) (fun ys=>ys=upto f len) (fun _=>True) len w:=fun l J Jx W hW hJ _ hY h0 =>
 (values1_in Fence.wide n trivial rfl hn l Bs n₀ b off len cap val f hreach hb J Jx hY (fun pre A o hj=>hJ pre A _ none hj (World.grownBy_alloc A o none) (fun r e=>by cases e)) W (Nat.le_trans hn₀ hW.size) ((hW.cell (p:=⟨Bs,0,none⟩) hBs).trans hBc) (fun j hj=>(hc j hj).below (hW.mono hn₀) hb) h0).mono
  (fun e W' h=>⟨h.1,h.2.imp id fun ⟨pre,_,h2⟩=>⟨pre,trivial,h2⟩⟩)
theorem Nq (W:World) (x:V) (t:TypeId):Lies (W.alloc (.cells #[.int .i64 x.1, .int .i64 x.2.1, .int .i64 x.2.2.1, .string x.2.2.2] t)) W.heap.size 0 x:=by
 unfold Lies World.cell?
 rw [World.alloc_heap_new]
 exact ⟨rfl,rfl,rfl,rfl⟩
theorem Is (l:List ByteArray) (h:∀ s∈l,s.size≤60000):(joinS l).size≤60002*l.length:=by
 have aux:∀ (l:List ByteArray) (a:ByteArray),(∀ s∈l,s.size≤60000)→(l.foldl stepS a).size≤a.size+60002*l.length:=by
  intro l
  induction l with
  | nil=>intro a _;simp
  | cons s l ih =>
   intro a h
   have h1:=ih (stepS a s) (fun x hx=>h x (by simp [hx]))
   have h2:=h s (by simp)
   have h3:(stepS a s).size≤a.size+2+s.size:=by
    unfold stepS
    rw [ByteArray.size_append]
    split
    ·omega
    ·rw [ByteArray.size_append];exact Nat.le_refl _
   simp only [List.foldl_cons,List.length_cons]
   omega
 have:=aux l ⟨#[]⟩ h
 have e:(⟨#[]⟩:ByteArray).size=0:=rfl
 unfold joinS
 omega
theorem N3 {W:World} {b B o:Nat} {x:V} (h:Lies W b o x) (hne:b≠B) (v:Value):Lies (W.setCell ⟨B,0,none⟩ v) b o x :=
 have e:=Below.heap_setCell W ⟨B,0,none⟩ v b hne
 ⟨(World.cell?_of_block e).trans h.1,(World.cell?_of_block e).trans h.2.1,(World.cell?_of_block e).trans h.2.2.1,(World.cell?_of_block e).trans h.2.2.2⟩
set_option maxRecDepth 100000 in
set_option maxHeartbeats 4000000 in
theorem Jm (n:Nat) (hn:6≤n) (Bs b off len cap:Nat) {α:Type} (val:α→V) (f:Nat→α) (L:α→ByteArray) (hlen:len≤1000) (w:World) (hb:b < w.heap.size) (hBs:Bs < w.heap.size)
  (hBc:w.cell? ⟨Bs,0,none⟩=some (.slice (some ⟨b,off,none⟩) len cap)) (hc:∀ j,j < len→Lies w b (off+j*4) (val (f j)))
  (hM:∀ x,(L x).size≤60000) (hL:∀ x W,Below w.heap.size w W→Calls Tryz.prog 23 #[A6 (val x)] W fun e W'=>e = .returned (.string (L x))∧Below W.heap.size W W') :
  CallsIn Fence.wide n Tryz.prog 37 #[.agg #[.func (.func 23) #[] #[]], .func (.func 64) #[] #[.pointer (some ⟨Bs,0,none⟩)]] w fun e W'=>e = .returned (.string (joinS ((upto f len).map L)))∧Below w.heap.size w W':=by
 have h1:1≤n:=by omega
 have hreach:len*40≤140737488351232:=by omega
 refine callsIn_of_wp_marks Tryz.func37 rfl trivial ?_ rfl
 simp only [Tryz.ntmps37,List.size_toArray,List.length_cons,List.length_nil,Nat.reduceAdd,Nat.reduceSub,Array.replicate_succ,Array.replicate_zero,List.push_toArray,List.append_toArray,List.nil_append,List.cons_append]
 gi_wp2
 have b2:=(Boxed.new w 76 (.func (.func 23) #[] #[])).alloc (.cells #[.string ⟨#[]⟩] 9)
 have b5:=Boxed.new (w.alloc (.cells #[.func (.func 23) #[] #[]] 76)) 9 (.string ⟨#[]⟩)
 simp only [World.size_alloc] at b5
 have hB0:Below w.heap.size w ((w.alloc (.cells #[.func (.func 23) #[] #[]] 76)).alloc (.cells #[.string ⟨#[]⟩] 9)):=((Below.refl _ w).alloc (Nat.le_refl _) _).alloc (by simp) _
 have hsz:((w.alloc (.cells #[.func (.func 23) #[] #[]] 76)).alloc (.cells #[.string ⟨#[]⟩] 9)).heap.size=w.heap.size+2:=by simp
 obtain ⟨W0,hW0⟩:∃ W0,(w.alloc (.cells #[.func (.func 23) #[] #[]] 76)).alloc (.cells #[.string ⟨#[]⟩] 9)=W0:=⟨_,rfl⟩
 rw [hW0] at b2 b5 hB0 hsz ⊢
 clear hW0
 refine wpIn_rangeFunc_ownH rfl h1 (gf:=64) (lb:=#[.pointer (some ⟨Bs,0,none⟩)]) rfl trivial (enters_of Tryz.func64 (by kernel_rfl) rfl)
  (values_stops (n - 1) (by omega) Bs w.heap.size b off len cap val f hreach W0 hb (by omega) (by omega) ((hB0.cell (p:=⟨Bs,0,none⟩) hBs).trans hBc) (fun j hj=>(hc j hj).below hB0 hb)) belowK_t (belowK_b (by omega)) (Below.refl _ _) (fun _=>rfl)
  (fun pre W=>(Boxed W (w.heap.size+1) 9 (.string (joinS (pre.map L)))∧Boxed W w.heap.size 76 (.func (.func 23) #[] #[]))∧Below w.heap.size w W)
  (fun _ _ _=>False)
  (OwnFrom.and (OwnFrom.and (Own.from (boxed_own _ _ _) _) (Own.from (boxed_own _ _ _) _)) (ownFrom_below (Nat.le_refl _) (by omega)))
  (fun _ _ _ _ _ hs _ _=>hs)
  ⟨⟨b5,b2⟩,hB0⟩
  (fun x a' W=>∃ Bx,w.heap.size+1 < Bx∧Lies W Bx 0 (val x)∧a'={ tmps:=#[.agg #[.func (.func 23) #[] #[]], .func (.func 64) #[] #[.pointer (some ⟨Bs,0,none⟩)], .pointer (some ⟨w.heap.size,0,none⟩),undef, .string ⟨#[]⟩, .pointer (some ⟨w.heap.size+1,0,none⟩), .pointer (some ⟨Bx,0,none⟩), .func (.func 64) #[] #[.pointer (some ⟨Bs,0,none⟩)],A6 (val x),undef,undef,undef,undef,undef,undef,undef,undef,undef,undef,undef],defers:=[] })
  (fun x a' _ X Y row hs hg hr=>by obtain ⟨Bx,h1,h2,h3⟩:=hs;exact ⟨Bx,h1,Lies.own Bx 0 (val x) () X Y row h2 hg hr,h3⟩)
  ?assign ?body ?done ?stop
 case assign =>
  rintro l pre x W K ⟨⟨bS1,bB1⟩,hB1⟩ hK
  unfold A6 at hK ⊢
  gi_wp2
  exact hK _ _ ((KeepsOthers.alloc _ _).from _) ((Below.refl _ W).alloc hB1.size _) ⟨⟨bS1.alloc _,bB1.alloc _⟩,hB1.alloc hB1.size _⟩ ⟨W.heap.size,bS1.lt,Nq W (val x) 28,rfl⟩
 case body =>
  rintro l pre x a' W hl ⟨r,hr⟩ ⟨⟨bS1,bB1⟩,hB1⟩ ⟨Bx,hBx,⟨d1,d2,d3,d4⟩,rfl⟩ hlt
  have hmx:Tryz.prog.follows .mixedOrders=true:=by kernel_rfl
  have c5:=bS1.cell
  have f5:=bS1.frozen
  have c2:=bB1.cell
  have hj:joinS ((pre++[x]).map L)=stepS (joinS (pre.map L)) (L x):=by rw [List.map_append,List.map_cons,List.map_nil,Iy]
  obtain ⟨o,ho⟩:∃ o,o=joinS (pre.map L):=⟨_,rfl⟩
  rw [← ho] at c5 bS1 hj
  have hO:o.size+2≤100000000:=by
   have:=Is (pre.map L) (fun s hs=>by obtain ⟨y,_,rfl⟩:=List.mem_map.1 hs;exact hM y)
   rw [← ho,List.length_map] at this
   omega
  clear ho
  unfold A6
  have hcall:=fun W' (h:Below w.heap.size w W')=>CallsIn.inRound (n:=n - 1 - 1 - 1) l (callsIn_wide.2 (hL x W' h))
  unfold A6 at hcall
  by_cases he:o=⟨#[]⟩
  ·subst he
   have hM1:=hM x
   have hsz1:(⟨#[]⟩:ByteArray).size+(L x).size≤maxLen:=by show 0+_≤_;unfold maxLen;omega
   have hsz2:(L x).size≤maxLen:=by unfold maxLen;omega
   have hsz3:¬ maxLen < (L x).size:=by unfold maxLen;omega
   have hst:stepS ⟨#[]⟩ (L x)=⟨#[]⟩++L x:=by unfold stepS;rw [if_pos rfl]
   rw [hst] at hj
   gi_wp2
   gi_region_with_o (refine ⟨trivial,fun h=>(by cases h),?_⟩;refine (hcall W.drew (hB1.drew)).mono ?_;rintro e w' ⟨rfl,hbel⟩;have b5':Boxed w' (w.heap.size+1) 9 (.string ⟨#[]⟩):=(hbel.block _ bS1.lt).trans bS1;have b2':Boxed w' w.heap.size 76 (.func (.func 23) #[] #[]):=(hbel.block _ bB1.lt).trans bB1;have c5':=b5'.cell;have f5':=b5'.frozen;have c2':=b2'.cell;have hk1:KeepsOthers W w':=⟨hbel.size,fun k o hk _=>(hbel.block k (Array.getElem?_eq_some_iff.1 hk).1).trans hk⟩;have hb1:Below w.heap.size W w':=((Below.refl _ W).drew).trans (hbel.mono hB1.size))
   all_goals gi_wp2
   all_goals (try go_bits)
   all_goals exact ⟨(hk1.trans (KeepsOthers.setCell _ _ _)).from _,hb1.setCell (p:=⟨w.heap.size+1,0,none⟩) (by simp) _,⟨⟨by rw [hj];exact b5'.set _,b2'.other (by omega) _⟩,(hB1.trans hb1).setCell (p:=⟨w.heap.size+1,0,none⟩) (by simp) _⟩⟩
  ·have hM1:=hM x
   have hst:stepS o (L x)=(o++⟨#[44,32]⟩)++L x:=by unfold stepS;rw [if_neg he]
   rw [hst] at hj
   have e2:¬ o.toList=[]:=fun h=>he (by
    rw [ByteArray.toList_eq] at h
    obtain ⟨⟨d⟩⟩:=o
    have h:d=[]:=h
    rw [h])
   have e1:o.toList.isEmpty=false:=by
    cases hq:o.toList with
    | nil=>exact absurd hq e2
    | cons _ _=>rfl
   have e3:(!o.toList.isEmpty)=true:=by rw [e1];rfl
   have b51:=bS1.set (.string (o++⟨#[44,32]⟩))
   have b21:=bB1.other (B':=w.heap.size+1) (by omega) (.string (o++⟨#[44,32]⟩))
   obtain ⟨g1,g2,g3,g4⟩:=N3 (B:=w.heap.size+1) ⟨d1,d2,d3,d4⟩ (by omega) (.string (o++⟨#[44,32]⟩))
   have hW1b:Below w.heap.size W (W.setCell ⟨w.heap.size+1,0,none⟩ (.string (o++⟨#[44,32]⟩))):=(Below.refl _ W).setCell (p:=⟨w.heap.size+1,0,none⟩) (by simp) _
   have hW1k:KeepsOthers W (W.setCell ⟨w.heap.size+1,0,none⟩ (.string (o++⟨#[44,32]⟩))):=KeepsOthers.setCell _ _ _
   have hos:(o++⟨#[44,32]⟩:ByteArray).size≤100000000:=by rw [ByteArray.size_append];exact hO
   have hsz0:o.size+(⟨#[44,32]⟩:ByteArray).size≤maxLen:=by
    have:o.size+2≤100000000:=hO
    show o.size+2≤maxLen
    unfold maxLen;omega
   gi_wp2
   have hB2:=hB1.trans hW1b
   generalize hW1:W.setCell ⟨w.heap.size+1,0,none⟩ (.string (o++⟨#[44,32]⟩))=W1 at *
   have hos2:o.size+2≤100000000:=hO
   generalize ho2:(o++⟨#[44,32]⟩:ByteArray)=o2 at *
   have c51:=b51.cell
   have f51:=b51.frozen
   have c21:=b21.cell
   have hsz1:o2.size+(L x).size≤maxLen:=by unfold maxLen;omega
   gi_region_with_o (refine ⟨trivial,fun h=>(by cases h),?_⟩;refine (hcall W1.drew (hB2.drew)).mono ?_;rintro e w' ⟨rfl,hbel⟩;have b5':Boxed w' (w.heap.size+1) 9 (.string o2):=(hbel.block _ b51.lt).trans b51;have b2':Boxed w' w.heap.size 76 (.func (.func 23) #[] #[]):=(hbel.block _ b21.lt).trans b21;have c5':=b5'.cell;have f5':=b5'.frozen;have c2':=b2'.cell;have hk1:KeepsOthers W w':=hW1k.trans ⟨hbel.size,fun k o hk _=>(hbel.block k (Array.getElem?_eq_some_iff.1 hk).1).trans hk⟩;have hb1:Below w.heap.size W w':=hW1b.trans (((Below.refl _ W1).drew).trans (hbel.mono hB2.size)))
   all_goals gi_wp2
   all_goals (try go_bits)
   all_goals exact ⟨(hk1.trans (KeepsOthers.setCell _ _ _)).from _,hb1.setCell (p:=⟨w.heap.size+1,0,none⟩) (by simp) _,⟨⟨by rw [hj];exact b5'.set _,b2'.other (by omega) _⟩,(hB1.trans hb1).setCell (p:=⟨w.heap.size+1,0,none⟩) (by simp) _⟩⟩
 case done =>
  rintro D zs W hD rfl ⟨⟨bS1,bB1⟩,hB1⟩ hK
  have cS:=bS1.cell
  gi_wp2
  refine ⟨by simp, .inl ⟨_,_,rfl,run_takeDeferred hK,?_⟩⟩
  exact ⟨_,results_tmp rfl _ _ _,rfl,hB1.trans (belowK_b (w:=w) (Nat.le_refl _) W D _ _ (by omega) hK rfl rfl)⟩
 case stop =>
  rintro D c pre W _ _ h _
  exact h.elim
end SqlSeq
end Go.Proofs
namespace Go.Proofs
open Go.RowKit Go.Shelf
attribute [local go_sem] Oper.semAt_some
namespace SqlSeq
set_option maxRecDepth 100000 in
theorem Me (s:ByteArray) (W:World):Calls Tryz.prog 34 #[.string s] W fun e W'=>e = .returned (.string s)∧Below W.heap.size W W':=by
 refine (callsIn_wide (n:=1)).1 ?_
 refine callsIn_of_wp Tryz.func34 rfl trivial ?_ rfl
 simp only [Tryz.ntmps34,List.size_toArray,List.length_cons,List.length_nil,Nat.reduceAdd,Nat.reduceSub,Array.replicate_succ,Array.replicate_zero,List.push_toArray,List.append_toArray,List.nil_append,List.cons_append]
 gi_wp2
 go_ret
 exact ⟨rfl,Below.refl _ _⟩
set_option maxRecDepth 100000 in
set_option maxHeartbeats 4000000 in
theorem G8 (n:Nat) (hn:6≤n) (lb:Array Value) (len:Nat) {α:Type} (L:α→ByteArray) (xs:List α) (Sp:List α→Prop) (hlen:len≤1000) (w:World) (hM:∀ x,(L x).size≤60000)
  (hseq:∀ W0,Below w.heap.size w W0→SeqStopsK Fence.wide (n - 1) Tryz.prog 61 lb (fun x:α=>#[.string (L x)]) (Below w.heap.size) (fun ys=>ys=xs) Sp len W0) :
  CallsIn Fence.wide n Tryz.prog 35 #[.agg #[.func (.func 34) #[] #[]], .func (.func 61) #[] lb] w fun e W'=>e = .returned (.string (joinS (xs.map L)))∧Below w.heap.size w W':=by
 have h1:1≤n:=by omega
 refine callsIn_of_wp_marks Tryz.func35 rfl trivial ?_ rfl
 simp only [Tryz.ntmps35,List.size_toArray,List.length_cons,List.length_nil,Nat.reduceAdd,Nat.reduceSub,Array.replicate_succ,Array.replicate_zero,List.push_toArray,List.append_toArray,List.nil_append,List.cons_append]
 gi_wp2
 have b2:=(Boxed.new w 70 (.func (.func 34) #[] #[])).alloc (.cells #[.string ⟨#[]⟩] 9)
 have b5:=Boxed.new (w.alloc (.cells #[.func (.func 34) #[] #[]] 70)) 9 (.string ⟨#[]⟩)
 simp only [World.size_alloc] at b5
 have hB0:Below w.heap.size w ((w.alloc (.cells #[.func (.func 34) #[] #[]] 70)).alloc (.cells #[.string ⟨#[]⟩] 9)):=((Below.refl _ w).alloc (Nat.le_refl _) _).alloc (by simp) _
 have hsz:((w.alloc (.cells #[.func (.func 34) #[] #[]] 70)).alloc (.cells #[.string ⟨#[]⟩] 9)).heap.size=w.heap.size+2:=by simp
 obtain ⟨W0,hW0⟩:∃ W0,(w.alloc (.cells #[.func (.func 34) #[] #[]] 70)).alloc (.cells #[.string ⟨#[]⟩] 9)=W0:=⟨_,rfl⟩
 rw [hW0] at b2 b5 hB0 hsz ⊢
 clear hW0
 refine wpIn_rangeFunc_ownH rfl h1 (gf:=61) (lb:=lb) rfl trivial (enters_of Tryz.func61 (by kernel_rfl) rfl)
  (hseq W0 hB0) belowK_t (belowK_b (by omega)) (Below.refl _ _) (fun _=>rfl)
  (fun pre W=>(Boxed W (w.heap.size+1) 9 (.string (joinS (pre.map L)))∧Boxed W w.heap.size 70 (.func (.func 34) #[] #[]))∧Below w.heap.size w W)
  (fun _ _ _=>False)
  (OwnFrom.and (OwnFrom.and (Own.from (boxed_own _ _ _) _) (Own.from (boxed_own _ _ _) _)) (ownFrom_below (Nat.le_refl _) (by omega)))
  (fun _ _ _ _ _ hs _ _=>hs)
  ⟨⟨b5,b2⟩,hB0⟩
  (fun x a' _=>a'={ tmps:=#[.agg #[.func (.func 34) #[] #[]], .func (.func 61) #[] lb, .pointer (some ⟨w.heap.size,0,none⟩),undef, .string ⟨#[]⟩, .pointer (some ⟨w.heap.size+1,0,none⟩), .string (L x), .func (.func 61) #[] lb, .string (L x),undef,undef,undef,undef,undef,undef,undef,undef,undef,undef,undef],defers:=[] })
  (fun _ _ _ _ _ _ hs _ _=>hs)
  ?assign ?body ?done ?stop
 case assign =>
  rintro l pre x W K ⟨⟨bS1,bB1⟩,hB1⟩ hK
  gi_wp2
  exact hK _ _ (KeepsFrom.refl _ _) (Below.refl _ _) ⟨⟨bS1,bB1⟩,hB1⟩ rfl
 case body =>
  rintro l pre x a' W hl ⟨r,hr⟩ ⟨⟨bS1,bB1⟩,hB1⟩ rfl hlt
  have hmx:Tryz.prog.follows .mixedOrders=true:=by kernel_rfl
  have c5:=bS1.cell
  have f5:=bS1.frozen
  have c2:=bB1.cell
  have hj:joinS ((pre++[x]).map L)=stepS (joinS (pre.map L)) (L x):=by rw [List.map_append,List.map_cons,List.map_nil,Iy]
  obtain ⟨o,ho⟩:∃ o,o=joinS (pre.map L):=⟨_,rfl⟩
  rw [← ho] at c5 bS1 hj
  have hO:o.size+2≤100000000:=by
   have:=Is (pre.map L) (fun s hs=>by obtain ⟨y,_,rfl⟩:=List.mem_map.1 hs;exact hM y)
   rw [← ho,List.length_map] at this
   omega
  clear ho
  have hcall:=fun W' (_:Below w.heap.size w W')=>CallsIn.inRound (n:=n - 1 - 1 - 1) l (callsIn_wide.2 (Me (L x) W'))
  by_cases he:o=⟨#[]⟩
  ·subst he
   have hM1:=hM x
   have hsz1:(⟨#[]⟩:ByteArray).size+(L x).size≤maxLen:=by show 0+_≤_;unfold maxLen;omega
   have hsz2:(L x).size≤maxLen:=by unfold maxLen;omega
   have hsz3:¬ maxLen < (L x).size:=by unfold maxLen;omega
   have hst:stepS ⟨#[]⟩ (L x)=⟨#[]⟩++L x:=by unfold stepS;rw [if_pos rfl]
   rw [hst] at hj
   gi_wp2
   gi_region_with_o (refine ⟨trivial,fun h=>(by cases h),?_⟩;refine (hcall W.drew (hB1.drew)).mono ?_;rintro e w' ⟨rfl,hbel⟩;have b5':Boxed w' (w.heap.size+1) 9 (.string ⟨#[]⟩):=(hbel.block _ bS1.lt).trans bS1;have b2':Boxed w' w.heap.size 70 (.func (.func 34) #[] #[]):=(hbel.block _ bB1.lt).trans bB1;have c5':=b5'.cell;have f5':=b5'.frozen;have c2':=b2'.cell;have hk1:KeepsOthers W w':=⟨hbel.size,fun k o hk _=>(hbel.block k (Array.getElem?_eq_some_iff.1 hk).1).trans hk⟩;have hb1:Below w.heap.size W w':=((Below.refl _ W).drew).trans (hbel.mono hB1.size))
   all_goals gi_wp2
   all_goals (try go_bits)
   all_goals exact ⟨(hk1.trans (KeepsOthers.setCell _ _ _)).from _,hb1.setCell (p:=⟨w.heap.size+1,0,none⟩) (by simp) _,⟨⟨by rw [hj];exact b5'.set _,b2'.other (by omega) _⟩,(hB1.trans hb1).setCell (p:=⟨w.heap.size+1,0,none⟩) (by simp) _⟩⟩
  ·have hM1:=hM x
   have hst:stepS o (L x)=(o++⟨#[44,32]⟩)++L x:=by unfold stepS;rw [if_neg he]
   rw [hst] at hj
   have e2:¬ o.toList=[]:=fun h=>he (by
    rw [ByteArray.toList_eq] at h
    obtain ⟨⟨d⟩⟩:=o
    have h:d=[]:=h
    rw [h])
   have e1:o.toList.isEmpty=false:=by
    cases hq:o.toList with
    | nil=>exact absurd hq e2
    | cons _ _=>rfl
   have e3:(!o.toList.isEmpty)=true:=by rw [e1];rfl
   have b51:=bS1.set (.string (o++⟨#[44,32]⟩))
   have b21:=bB1.other (B':=w.heap.size+1) (by omega) (.string (o++⟨#[44,32]⟩))
   have hW1b:Below w.heap.size W (W.setCell ⟨w.heap.size+1,0,none⟩ (.string (o++⟨#[44,32]⟩))):=(Below.refl _ W).setCell (p:=⟨w.heap.size+1,0,none⟩) (by simp) _
   have hW1k:KeepsOthers W (W.setCell ⟨w.heap.size+1,0,none⟩ (.string (o++⟨#[44,32]⟩))):=KeepsOthers.setCell _ _ _
   have hos:(o++⟨#[44,32]⟩:ByteArray).size≤100000000:=by rw [ByteArray.size_append];exact hO
   have hsz0:o.size+(⟨#[44,32]⟩:ByteArray).size≤maxLen:=by
    have:o.size+2≤100000000:=hO
    show o.size+2≤maxLen
    unfold maxLen;omega
   gi_wp2
   have hB2:=hB1.trans hW1b
   generalize hW1:W.setCell ⟨w.heap.size+1,0,none⟩ (.string (o++⟨#[44,32]⟩))=W1 at *
   have hos2:o.size+2≤100000000:=hO
   generalize ho2:(o++⟨#[44,32]⟩:ByteArray)=o2 at *
   have c51:=b51.cell
   have f51:=b51.frozen
   have c21:=b21.cell
   have hsz1:o2.size+(L x).size≤maxLen:=by unfold maxLen;omega
   gi_region_with_o (refine ⟨trivial,fun h=>(by cases h),?_⟩;refine (hcall W1.drew (hB2.drew)).mono ?_;rintro e w' ⟨rfl,hbel⟩;have b5':Boxed w' (w.heap.size+1) 9 (.string o2):=(hbel.block _ b51.lt).trans b51;have b2':Boxed w' w.heap.size 70 (.func (.func 34) #[] #[]):=(hbel.block _ b21.lt).trans b21;have c5':=b5'.cell;have f5':=b5'.frozen;have c2':=b2'.cell;have hk1:KeepsOthers W w':=hW1k.trans ⟨hbel.size,fun k o hk _=>(hbel.block k (Array.getElem?_eq_some_iff.1 hk).1).trans hk⟩;have hb1:Below w.heap.size W w':=hW1b.trans (((Below.refl _ W1).drew).trans (hbel.mono hB2.size)))
   all_goals gi_wp2
   all_goals (try go_bits)
   all_goals exact ⟨(hk1.trans (KeepsOthers.setCell _ _ _)).from _,hb1.setCell (p:=⟨w.heap.size+1,0,none⟩) (by simp) _,⟨⟨by rw [hj];exact b5'.set _,b2'.other (by omega) _⟩,(hB1.trans hb1).setCell (p:=⟨w.heap.size+1,0,none⟩) (by simp) _⟩⟩
 case done =>
  rintro D zs W hD rfl ⟨⟨bS1,bB1⟩,hB1⟩ hK
  have cS:=bS1.cell
  gi_wp2
  refine ⟨by simp, .inl ⟨_,_,rfl,run_takeDeferred hK,?_⟩⟩
  exact ⟨_,results_tmp rfl _ _ _,rfl,hB1.trans (belowK_b (w:=w) (Nat.le_refl _) W D _ _ (by omega) hK rfl rfl)⟩
 case stop =>
  rintro D c pre W _ _ h _
  exact h.elim
end SqlSeq
end Go.Proofs
namespace Go.Proofs.YtdlkibeljkapeaaGreatDoor.Den
open Go Go.RowKit
open Go.Proofs.SqlSeq (V A6 upto joinS Jm)
theorem EvS.ofCalls {P:Program} {g:FuncId} {args:List PV} {s:List Res} {r:PV} (hfn:∃ fn,P.funcs[g]? = some fn∧(fn.name == "runtime.NumGoroutine")=false∧fn.body.isSome=true)
  (h:∀ X w (vs:Array Value),vs.size=args.length→(∀ (j:Nat) p,args[j]? = some p→R X p (vs.getD j Go.undef))→Inv X w (fun i=>s[i]?)→Calls P g vs w fun e w'=>(∃ v,e = .returned v∧R X r v)∧Below w.heap.size w w'):EvS P g args s r s:=by
 refine ⟨Nat.le_refl _,hfn,fun X w vs h1 h2 h3=>(h X w vs h1 h2 h3).mono ?_⟩
 rintro e w' ⟨⟨v,he,hv⟩,bel⟩
 refine ⟨v,X,he,hv,⟨Map.Le.refl X,⟨fun b o u hu=>?_,h3.ok.2.keep (fun _ _ _ h=>h) (fun g _ hg=>bel.block g hg)⟩,bel.size,bel.os,bel.tape,bel.output,fun k hk _=>bel.block k hk,fun b o v hv=>.inl hv,fun _ h=>absurd trivial h,fun id _=>(h3.res id).keep (Map.Le.refl X) rfl rfl (fun b ho=>bel.block b ((h3.res id).lt ho)) (fun _ _ _ _ h=>h),fun _ _ _ ho=>.inl ho,fun i j b _ _ hi hj=>h3.dis i j b hi hj⟩⟩
 have hc:=h3.ok.1 b o u hu
 have hb:b < w.heap.size:=by
  unfold World.cell? at hc
  split at hc
  ·rename_i hq;exact (Array.getElem?_eq_some_iff.1 hq).1
  ·cases hc
 exact (bel.cell (p:=⟨b,o,none⟩) hb).trans hc
theorem cell_lt {w:World} {b o:Nat} {v:Value} (hc:w.cell? ⟨b,o,none⟩=some v):b < w.heap.size:=by
 unfold World.cell? at hc
 split at hc
 ·rename_i hq;exact (Array.getElem?_eq_some_iff.1 hq).1
 ·cases hc
theorem Ew {X:Map} {w w':World} (h:X.Ok w) (bel:Below w.heap.size w w'):X.Ok w' :=
 ⟨fun b o u hu=>(bel.cell (p:=⟨b,o,none⟩) (cell_lt (h.1 b o u hu))).trans (h.1 b o u hu),h.2.keep (fun _ _ _ h=>h) (fun g _ hg=>bel.block g hg)⟩
theorem I2 {X X':Map} {w w':World} {s s':Nat→Option Res} (p:Post X X' w w' s s' (fun _=>False)):Below w.heap.size w w' :=
 ⟨p.os,p.tape,p.output,p.grow,fun k hk=>p.keep k hk (fun _ h=>h.elim)⟩
def Ef (v:V4):V:=(v.1,v.2.1,v.2.2.1,⟨v.2.2.2.toArray⟩)
theorem Sj (X:Map) (v:V4):R X (Den.vP v) (A6 (Ef v)):=by
 refine .agg _ _ rfl (fun j c hc=>?_) (fun u hu=>?_)
 ·match j,hc with
  | 0,hc=>cases hc;exact .int _ _
  | 1,hc=>cases hc;exact .int _ _
  | 2,hc=>cases hc;exact .int _ _
  | 3,hc=>cases hc;exact .str ⟨v.2.2.2.toArray⟩
 ·simp only [List.mem_toArray,List.mem_cons,List.not_mem_nil,or_false] at hu
  rcases hu with rfl|rfl|rfl|rfl<;>rfl
theorem ev_lit {v:V4} {t:List UInt8} (h:Ev PG Aq [Den.vP v] (.str t)) {X:Map} {w:World} (hX:X.Ok w):Calls PG Aq #[A6 (Ef v)] w fun e w'=>e = .returned (.string ⟨t.toArray⟩)∧Below w.heap.size w w':=by
 refine (h.2 X w #[A6 (Ef v)] rfl (fun j p hp=>?_) hX).mono ?_
 ·match j,hp with
  | 0,hp=>cases hp;exact Sj X v
 ·rintro e w' ⟨u,X',rfl,hr,hp⟩
  rw [hr.str_inv]
  exact ⟨rfl,I2 hp⟩
def joinL (l:List (List UInt8)):List UInt8:=(joinS (l.map fun t=>⟨t.toArray⟩)).data.toList
theorem Nn {vs:List (V4 × List UInt8)} (h0:vs≠[]) (h5:vs.length≤1000) (hv:∀ v∈vs,Ev PG Aq [Den.vP v.1] (.str v.2)∧v.2.length≤60000) :
  EvS PG H9 [.agg [.fn Aq [] []], .fn Ie [] [.box 0 0]] [.box [rowP vs]] (.str (joinL (vs.map (·.2)))) [.box [rowP vs]]:=by
 refine EvS.ofCalls (fn_of _ (by kernel_rfl)) fun X w us a1 a2 a3=>?_
 obtain ⟨u1,u2,rfl,r1,r2⟩:=vs_two a1 a2
 obtain ⟨bx,cs,e,hmb,hheap,hsz,_,hR,_,_⟩:=a3.res 0
 have hpos:0 < vs.length:=by cases vs with|nil=>exact absurd rfl h0|cons _ _=>simp
 have hrow:=hR 0 (rowP vs) rfl
 obtain ⟨row,hrw⟩:∃ row,row=cs.getD 0 Go.undef:=⟨_,rfl⟩
 rw [← hrw] at hrow
 have hcell:w.cell? ⟨bx,0,none⟩=some row:=by
  obtain ⟨l⟩:=cs
  match l,hsz with
  | [q],_ =>
   subst hrw
   unfold World.cell?
   rw [hheap]
   rfl
 have e1:u1 = .agg #[.func (.func 23) #[] #[]]:=by
  cases r1 with
  | agg _ us hs hj _ =>
   obtain ⟨l⟩:=us
   match l,hs with
   | [q],_ =>
    have:=hj 0 _ rfl
    cases this with
    | fn _ _ _ fs ks h1 h2 _ _ =>
     obtain ⟨fl⟩:=fs
     obtain ⟨kl⟩:=ks
     match fl,kl,h1,h2 with
     | [],[],_,_=>rfl
 have e2:u2 = .func (.func 64) #[] #[.pointer (some ⟨bx,0,none⟩)]:=by
  cases r2 with
  | fn _ _ _ fs ks h1 h2 _ hj =>
   obtain ⟨fl⟩:=fs
   obtain ⟨kl⟩:=ks
   match fl,kl,h1,h2 with
   | [],[q],_,_ =>
    have:=hj 0 _ rfl
    cases this with
    | box _ _ b hb=>rw [hmb] at hb;cases hb;rfl
 subst e1 e2
 clear r1 r2 a1 a2
 obtain ⟨xs,hxs⟩:∃ xs,xs=vs.map fun v=>Den.vP v.1:=⟨_,rfl⟩
 have hrow':R X (.slice 4 xs) row:=by rw [hxs];exact hrow
 cases hrow' with
 | slice _ _ b o cap u k1 k2 k3 k4 k5 k6 =>
  have hlen:xs.length=vs.length:=by rw [hxs,List.length_map]
  have hget:∀ (j:Nat) (hj:j < vs.length) (i:Nat),i < 4→(xs.flatMap PV.cellsD)[j*4+i]? = [nI (vs[j]).1.1,nI (vs[j]).1.2.1,nI (vs[j]).1.2.2.1,PV.str (vs[j]).1.2.2.2][i]?:=fun j hj i hi=>by
   rw [flat4_get PV.cellsD xs (fun a ha=>by rw [hxs] at ha;obtain ⟨v,_,rfl⟩:=List.mem_map.1 ha;rfl),show (j*4+i) / 4=j by omega,show (j*4+i) % 4=i by omega,hxs,List.getElem?_map,List.getElem?_eq_getElem hj]
   rfl
  have hcl:∀ (j:Nat) (hj:j < vs.length) (i:Nat) (c:PV),i < 4→[nI (vs[j]).1.1,nI (vs[j]).1.2.1,nI (vs[j]).1.2.2.1,PV.str (vs[j]).1.2.2.2][i]? = some c→w.cell? ⟨b,o+j*4+i,none⟩=some (u (j*4+i))∧R X c (u (j*4+i)):=fun j hj i c hi hc=>by
   have hg:=(hget j hj i hi).trans hc
   have h1:=a3.ok.1 b (o+(j*4+i)) _ (k4 _ _ hg)
   rw [show o+(j*4+i)=o+j*4+i by omega] at h1
   exact ⟨h1,k5 _ _ hg⟩
  have hlie:∀ (j:Nat) (hj:j < vs.length),Go.Proofs.SqlSeq.Lies w b (o+j*4) (Ef (vs[j]).1):=fun j hj=>by
   obtain ⟨p0,q0⟩:=hcl j hj 0 _ (by omega) rfl
   obtain ⟨p1,q1⟩:=hcl j hj 1 _ (by omega) rfl
   obtain ⟨p2,q2⟩:=hcl j hj 2 _ (by omega) rfl
   obtain ⟨p3,q3⟩:=hcl j hj 3 _ (by omega) rfl
   rw [q0.int_inv] at p0
   rw [q1.int_inv] at p1
   rw [q2.int_inv] at p2
   rw [q3.str_inv] at p3
   exact ⟨p0,p1,p2,p3⟩
  have hb:b < w.heap.size:=cell_lt (hlie 0 hpos).1
  have key:=Jm 6 (Nat.le_refl _) bx b o vs.length cap (fun x : {j:Nat // j < vs.length}=>Ef (vs[x.1]'x.2).1) (fun j=>if h:j < vs.length then ⟨j,h⟩ else ⟨0,hpos⟩) (fun x=>⟨(vs[x.1]'x.2).2.toArray⟩) h5 w hb (cell_lt hcell) (by rw [hcell,hlen]) (fun j hj=>by
   rw [dif_pos hj];exact hlie j hj) (fun x=>by
    show (vs[x.1]'x.2).2.toArray.size≤60000
    rw [List.size_toArray];exact (hv _ (List.getElem_mem x.2)).2) (fun x W hW=>ev_lit (hv _ (List.getElem_mem x.2)).1 (Ew a3.ok hW))
  have hfin:(upto (fun j=>if h:j < vs.length then (⟨j,h⟩ : {j:Nat // j < vs.length}) else ⟨0,hpos⟩) vs.length).map (fun x=>(⟨(vs[x.1]'x.2).2.toArray⟩:ByteArray))=(vs.map (·.2)).map fun t=>⟨t.toArray⟩:=by
   refine List.ext_getElem (by simp [upto]) fun i h1 h2=>?_
   have hi:i < vs.length:=by simpa [upto] using h1
   simp [upto,hi]
  rw [hfin] at key
  refine ((callsIn_wide (n:=6)).1 key).mono ?_
  rintro e w' ⟨rfl,bel⟩
  exact ⟨⟨_,rfl, .str _⟩,bel⟩
end Go.Proofs.YtdlkibeljkapeaaGreatDoor.Den
