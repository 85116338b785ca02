-- Written by drive.py and pack.py (programs of this proof's own) through the kit's printer; not trusted: Lean checks it.
import Derived.Test.YtdlkibeljkapeaaGreatDoorProg
import Derived.Below
import Derived.Deep.Draws
import Derived.Deep.AppendLies
import Derived.Maps.AppendAt
import Derived.OwnWalk
import Derived.Laws.BytesArg
import Derived.Laws.MakeOwn
import Derived.Laws.OwnMore
import Derived.Deep.OwnRows
import Derived.Tactics
import Derived.Lib.ConvBytes
import Derived.Laws.Slices
import Derived.WalkKit
import Derived.KernelRfl
import Derived.RowKit3
import Derived.Deep.LoopGhost
import Derived.Deep.QuietTactic
import Derived.BigQuiet
import Derived.WideLaws
import Derived.Deep.DeepCutAuto
import Derived.Deep.CutBlock
import Derived.Deep.RegionHeld3
import Derived.Laws.Rows
import Derived.Lib.AppendStr
import Derived.ArgAppend
import Derived.Laws.IdiomCopy
import Derived.OrdersHeld
import Derived.Laws.BitsLemmas
import Derived.RowKit
import Derived.Test.YtdlkibeljkapeaaGreatDoorCSqlLong4
import Derived.Test.YtdlkibeljkapeaaGreatDoorCSqlLong3
import Derived.Lib.Strings
import Derived.Lib.SmallJoins
namespace Go.Proofs.YtdlkibeljkapeaaGreatDoor.B
open Go.RowKit Go.Proofs.YtdlkibeljkapeaaGreatDoorW.PrintWords Go.Proofs.YtdlkibeljkapeaaGreatDoorW.PrintLast Go.Proofs.YtdlkibeljkapeaaGreatDoorW.PrintMore
attribute [local go_sem] max2_int min2_int max_two min_two max_three min_three max_four min_four
set_option linter.unusedVariables false
set_option linter.unusedSimpArgs false
theorem bytesLess_swap:∀ a b:List UInt8,Op.bytesLess b a = !(Op.bytesLess a b||a==b)
 | [],[]=>by simp [Op.bytesLess]
 | [],_::_=>by simp [Op.bytesLess]
 | _::_,[]=>by simp [Op.bytesLess]
 | x::a,y::b=>by
  have ih:=bytesLess_swap a b
  simp only [Op.bytesLess]
  by_cases h1:x < y
  ·have h2:¬ y < x:=by rw [UInt8.lt_iff_toNat_lt] at *;omega
   have h3:¬ y=x:=by rintro rfl;exact h2 h1
   simp [h1,h2,h3]
  ·by_cases h2:y < x
   ·have h3:¬ x=y:=by rintro rfl;exact h1 h2
    simp [h1,h2,h3]
   ·have h3:x=y:=by
     apply UInt8.toNat_inj.1
     rw [UInt8.lt_iff_toNat_lt] at *;omega
    subst h3
    simp [h1,ih]
theorem own_gtr (t:TypeId) (a b:ByteArray):binOp .gtr t (.string a) (.string b)=pure (.bool (Op.bytesLess b.toList a.toList)):=by
 rw [bytesLess_swap a.toList b.toList];simp [binOp,Op.stringOp]
theorem own_leq (t:TypeId) (a b:ByteArray):binOp .leq t (.string a) (.string b)=pure (.bool (!Op.bytesLess b.toList a.toList)):=by
 rw [bytesLess_swap a.toList b.toList];simp [binOp,Op.stringOp]
theorem own_geq (t:TypeId) (a b:ByteArray):binOp .geq t (.string a) (.string b)=pure (.bool (!Op.bytesLess a.toList b.toList)):=by
 simp [binOp,Op.stringOp]
theorem own_cell_set (w:World) (b o b' o':Nat) (v:Value):(w.setCell ⟨b,o,none⟩ v).cell? ⟨b',o',none⟩=if b=b'∧o=o' then (w.cell? ⟨b',o',none⟩).map (fun _=>v) else w.cell? ⟨b',o',none⟩:=by
 by_cases h:b=b'∧o=o'
 ·obtain ⟨rfl,rfl⟩:=h
  rw [if_pos ⟨rfl,rfl⟩]
  cases hc:w.cell? ⟨b,o,none⟩ with
  | some u=>exact World.cell?_setCell_same w _ v hc
  | none =>
   have hn:(w.setCell ⟨b,o,none⟩ v).cell? ⟨b,o,none⟩=none:=by
    simp only [World.cell?,World.setCell,Array.getElem?_modify] at hc ⊢
    cases hb:w.heap[b]? with
    | none=>simp
    | some ob =>
     cases ob with
     | cells c e f =>
      rw [hb] at hc
      simp at hc ⊢
      omega
     | _=>simp
   rw [hn];rfl
 ·rw [if_neg h]
  refine World.cell?_setCell_other w _ _ v ?_
  intro e
  simp only [Addr.mk.injEq] at e
  exact h ⟨e.1,e.2.1⟩
end Go.Proofs.YtdlkibeljkapeaaGreatDoor.B
namespace Go.Proofs.YtdlkibeljkapeaaGreatDoor.B
open Go.RowKit Go.Proofs.YtdlkibeljkapeaaGreatDoorW.PrintWords Go.Proofs.YtdlkibeljkapeaaGreatDoorW.PrintLast Go.Proofs.YtdlkibeljkapeaaGreatDoorW.PrintMore
attribute [local go_sem] max2_int min2_int max_two min_two max_three min_three max_four min_four
attribute [local go_sem high] own_gtr own_leq own_geq own_cell_set Option.map_some
set_option linter.unusedVariables false
set_option linter.unusedSimpArgs false
def BufAt (w:World) (G:Nat) (l:List Int):Prop:=∃ cur:Array Value,∃ m:Nat,w.heap[G]? = some (.cells cur 5 (m,m+1))∧l.length≤m∧m=cur.size∧∀ j,j < l.length→cur[j]? = some (.int .u8 (l.getD j 0))
theorem BufAt.cell {w:World} {G:Nat} {l:List Int} (h:BufAt w G l) (j:Nat) (hj:j < l.length):w.cell? ⟨G,j,none⟩=some (.int .u8 (l.getD j 0)):=by
 obtain ⟨cur,m,h1,h2,h3,h4⟩:=h
 simp [World.cell?,h1,h4 j hj]
theorem BufAt.set {w:World} {G:Nat} {l:List Int} (h:BufAt w G l) (j:Nat) (x:Int):BufAt (w.setCell ⟨G,j,none⟩ (.int .u8 x)) G (l.set j x):=by
 obtain ⟨cur,m,h1,h2,h3,h4⟩:=h
 refine ⟨cur.setIfInBounds j (.int .u8 x),m,?_,by simpa using h2,by simpa using h3,?_⟩
 ·simp [World.setCell,Array.getElem?_modify,h1]
 ·intro i hi
  rw [List.length_set] at hi
  rw [Array.getElem?_setIfInBounds]
  by_cases e:j=i
  ·subst e
   rw [if_pos rfl,if_pos (by omega)]
   simp [List.getD,hi]
  ·rw [if_neg e,h4 i hi]
   simp [List.getD,List.getElem?_set_ne e]
theorem BufAt.drewN {w:World} {G:Nat} {l:List Int} (h:BufAt w G l) (n:Nat):BufAt (w.drewN n) G l:=by
 obtain ⟨cur,m,h1,h⟩:=h
 exact ⟨cur,m,by simpa using h1,h⟩
theorem BufAt.lt {w:World} {G:Nat} {l:List Int} (h:BufAt w G l):G < w.heap.size:=by
 obtain ⟨cur,m,h1,h⟩:=h
 exact (Array.getElem?_eq_some_iff.1 h1).1
end Go.Proofs.YtdlkibeljkapeaaGreatDoor.B
namespace Go.Proofs.YtdlkibeljkapeaaGreatDoor.B
open Go.RowKit Go.Proofs.YtdlkibeljkapeaaGreatDoorW.PrintWords Go.Proofs.YtdlkibeljkapeaaGreatDoorW.PrintLast Go.Proofs.YtdlkibeljkapeaaGreatDoorW.PrintMore
attribute [local go_sem] max2_int min2_int max_two min_two max_three min_three max_four min_four
attribute [local go_sem high] own_gtr own_leq own_geq own_cell_set Option.map_some
set_option linter.unusedVariables false
set_option linter.unusedSimpArgs false
theorem eqA28 (d:Nat) (w:World) (x0 y0:Int) (x1 y1:Int) (x2 y2:Int) (x3 y3:ByteArray) :
  (Op.equalIn (d+2) 28 (.agg #[.int .i64 x0, .int .i64 x1, .int .i64 x2, .string x3]) (.agg #[.int .i64 y0, .int .i64 y1, .int .i64 y2, .string y3])).run Tryz.prog w = .ok (x0==y0&&(x1==y1&&(x2==y2&&(x3.toList==y3.toList)))) w:=by
 refine eqA_of Tryz.underlying28 (by kernel_rfl) ?_
 refine eqf_cons (by rfl) (by go_simp;rfl) (by go_simp;rfl) (by go_simp) ?_
 refine eqf_cons (by rfl) (by go_simp;rfl) (by go_simp;rfl) (by go_simp) ?_
 refine eqf_cons (by rfl) (by go_simp;rfl) (by go_simp;rfl) (by go_simp) ?_
 exact eqf_last (by rfl) (by go_simp;rfl) (by go_simp;rfl) (by go_simp)
end Go.Proofs.YtdlkibeljkapeaaGreatDoor.B
namespace Go.Proofs.YtdlkibeljkapeaaGreatDoor.Den
open Go Go.RowKit
open Go.Proofs.YtdlkibeljkapeaaGreatDoor.B

def hexd (n:Nat):UInt8:=([48,49,50,51,52,53,54,55,56,57,97,98,99,100,101,102]:List UInt8).getD n 0
def hx:List UInt8→List UInt8
 | []=>[]
 | c::l=>hexd (c.toNat / 16)::hexd (c.toNat % 16)::hx l
end Go.Proofs.YtdlkibeljkapeaaGreatDoor.Den
namespace Go.Proofs.YtdlkibeljkapeaaGreatDoor.Den
open Go Go.RowKit
end Go.Proofs.YtdlkibeljkapeaaGreatDoor.Den
namespace Go.Proofs.YtdlkibeljkapeaaGreatDoor.Den
open Go Go.RowKit
open Go.Proofs.YtdlkibeljkapeaaGreatDoor.B

end Go.Proofs.YtdlkibeljkapeaaGreatDoor.Den
namespace Go.Proofs.YtdlkibeljkapeaaGreatDoor.Den
open Go Go.RowKit
section
variable {s:List UInt8} {i:Nat} {g:List UInt8}
def LitAt (s:List UInt8) (i j:Nat) (v:V4):Prop:=∃ y tu,Rd s i y tu∧isM y (kw "not")=false∧∀ dp z tz,Rd s j z tz→Const s y tu dp v z tz
def endOk:List UInt8→Bool
 | []=>true
 | c::_=>c==41||c==32||c==44||c==59||c==10
theorem endOk_facts:∀ {rest:List UInt8},endOk rest=true→headNot isInner rest=true∧headNot isDigit rest=true∧rest[0]? ≠ some 46∧rest[0]? ≠ some 39
 | [],_=>⟨rfl,rfl,by simp,by simp⟩
 | c::r,h=>by
  simp only [endOk,Bool.or_eq_true,beq_iff_eq] at h
  rcases h with (((rfl|rfl)|rfl)|rfl)|rfl<;>exact ⟨rfl,rfl,by simp,by simp⟩
variable (hs:s.length≤4000) (hi:i≤s.length) (hg:g.all isBlank=true) {rest:List UInt8} (hr:endOk rest=true)
include hs hi hg hr
omit hr in
end
end Go.Proofs.YtdlkibeljkapeaaGreatDoor.Den
namespace Go.Proofs.YtdlkibeljkapeaaGreatDoor.Den
open Go Go.RowKit
section
variable {s:List UInt8} {i:Nat} {g:List UInt8} (hs:s.length≤4000) (hi:i≤s.length) (hg:g.all isBlank=true) {rest:List UInt8} (hr:endOk rest=true)
include hs hi hg hr
end
end Go.Proofs.YtdlkibeljkapeaaGreatDoor.Den
namespace Go.Proofs.YtdlkibeljkapeaaGreatDoor.Den
open Go Go.RowKit
open Go.Proofs.YtdlkibeljkapeaaGreatDoor.B
structure LitOk (v:V4) (t:List UInt8):Prop where
 len:t.length≤200
 one:Ev PG f_sql_Lit [Den.vP v] (.str t)
 two:Ev PG f_r3_Lit [Den.vP v] (.str t)
 rd:∀ {s:List UInt8} {i:Nat} {g rest:List UInt8},s.length≤4000→i≤s.length→g.all isBlank=true→endOk rest=true→s.drop i=g++(t++rest)→LitAt s i (i+g.length+t.length) v
def walkQ:Bool→List UInt8→Option Bool
 | b,[]=>some b
 | b,c::t=>if c=39 then walkQ (!b) t else if c=32∧b=false then none else walkQ b t
def nobl (t:List UInt8):Prop:=walkQ false t=some false
end Go.Proofs.YtdlkibeljkapeaaGreatDoor.Den
namespace Go.Proofs.YtdlkibeljkapeaaGreatDoor.Den
open Go Go.RowKit
open Go.Proofs.YtdlkibeljkapeaaGreatDoor.B
def isnB:List UInt8:=[32,105,115,32,110,117,108,108]
theorem is_w (a:Nat):wordSg (105::[115]) a=⟨1,a,kw "is", v0,0⟩:=by
 have:keysL.contains (105::[115])=true:=by kernel_rfl
 unfold wordSg
 rw [this];rfl
theorem null_w (a:Nat):wordSg (110::[117,108,108]) a=⟨1,a,kw "null", v0,0⟩:=by
 have:keysL.contains (110::[117,108,108])=true:=by kernel_rfl
 unfold wordSg
 rw [this];rfl
end Go.Proofs.YtdlkibeljkapeaaGreatDoor.Den
namespace Go.Proofs.YtdlkibeljkapeaaGreatDoor.Den
open Go Go.RowKit
def opsL:List (Int × String):=[(6, "*"),(7, "+"),(8, "-"),(9, "="),(10, "<>"),(11, "<"),(12, "<="),(13, "and"),(14, "or")]
def opF (_k:Int) (m:String):List Fact :=
 [isT (okD 1 9) "not" false,isT (okD 40 9) "not" false, .st f_sql_parser_one [.box 0 0] (okD 1 9) (eA 30) (okD 20 9),nextT (okD 20 9) (okD 40 9), .st f_sql_parser_one [.box 0 0] (okD 40 9) (eA 60) (okD 50 9)] ++
 (stops.map fun w=>isT (okD 20 9) w (w==m))++(stops.map fun w=>isT (okD 50 9) w false)
theorem op_k:(opsL.all fun q=>okRS (exA (nI q.1) (.str []) (nI 0) (nI 0) (nI 0) (.str []) (.slice 7 [eA 30,eA 60])) (okD 50 9) (callF PG (fOrc noOwn (opF q.1 q.2)) 20 f_sql_parser_any [.box 0 0] (okD 1 9)))=true:=by kernel_rfl
def isnF:List Fact:=[isT (okD 1 9) "not" false, .st f_sql_parser_one [.box 0 0] (okD 1 9) (eA 30) (okD 20 9)]++(["*", "+", "-", "=", "<>", "<", "<="].map fun m=>isT (okD 20 9) m false) ++
 [isT (okD 20 9) "is" true,nextT (okD 20 9) (okD 40 9),isT (okD 40 9) "null" true,nextT (okD 40 9) (okD 50 9),isT (okD 50 9) "and" false,isT (okD 50 9) "or" false]
theorem isn_k:okRS (exA (nI 5) (.str []) (nI 0) (nI 0) (nI 0) (.str []) (.slice 7 [eA 30])) (okD 50 9) (callF PG (fOrc noOwn isnF) 20 f_sql_parser_any [.box 0 0] (okD 1 9))=true:=by kernel_rfl
theorem nt_k:okRS (eA 30) (okD 20 9) (callF PG (fOrc noOwn (isT (okD 1 9) "not" false::.st f_sql_parser_one [.box 0 0] (okD 1 9) (eA 30) (okD 20 9)::stops.map fun m=>isT (okD 20 9) m false)) 20 f_sql_parser_not [.box 0 0] (okD 1 9))=true:=by kernel_rfl
theorem no_k:okRS (exA (nI 3) (.str []) (nI 0) (nI 0) (nI 0) (.str []) (.slice 7 [eA 30])) (okD 20 9) (callF PG (fOrc noOwn ([isT (okD 1 9) "not" true, .st f_sql_parser_not [.box 0 0] (okD 10 18) (eA 30) (okD 20 18),isT (okD 20 9) "and" false,isT (okD 20 9) "or" false]++upF)) 20 f_sql_parser_any [.box 0 0] (okD 1 9))=true:=by kernel_rfl
def E7.bin (k:Int) (a b:E7):E7:=⟨nI k, .str [],nI 0,nI 0,nI 0, .str [], .slice 7 [a.pv,b.pv]⟩
theorem E7.bin_ok {k:Int} {a b:E7} (ha:a.ok=true) (hb:b.ok=true):(E7.bin k a b).ok=true:=by
 have h1:=E7.pure ha
 have h2:=E7.pure hb
 simp only [E7.bin,E7.ok,E7.L,List.all_cons,List.all_nil,PV.clean,PV.pure,PV.pureL,h1,h2,Bool.and_self]
def opNu (s:List UInt8) (x:Sg) (tt dp:Nat) (z:Sg) (tz:Nat) (r:E7) (y:Sg) (ty:Nat) (f:Sg) (tf:Nat) (r2:E7):List PV:=onNu s x tt dp x tt (sv z tz) r y ty++([nI 0,nI 0]++(sv f tf++[nI 0,nI 0])++r2.L)
theorem opNu_ok {s:List UInt8} {x:Sg} {tt dp:Nat} {z:Sg} {tz:Nat} {r:E7} {y:Sg} {ty:Nat} {f:Sg} {tf:Nat} {r2:E7} (hr:r.ok=true) (hr2:r2.ok=true):NuOk (nuL (opNu s x tt dp z tz r y ty f tf r2)):=by
 refine nuL_okB ?_
 unfold opNu
 rw [List.all_append,List.all_append]
 have h1:((onNu s x tt dp x tt (sv z tz) r y ty).all fun p=>p.clean&&p.pure)=true:=all3 rfl hr rfl
 rw [h1,show (r2.L.all fun p=>p.clean&&p.pure)=true from hr2]
 rfl
section
variable {s:List UInt8} {x z y f:Sg} {tt tz ty tf dp:Nat} {r r2:E7}
theorem any_op {q:Int × String} (hq:q∈opsL) (hn:isM x (kw "not")=false) (h1:One s x tt dp r z tz) (hz:∀ w∈stops,isM z (kw w)=(w==q.2)) (hy:Rd s tz y ty) (hny:isM y (kw "not")=false) (h2:One s y ty dp r2 f tf) (hf:∀ w∈stops,isM f (kw w)=false):Any s x tt dp (E7.bin q.1 r r2) f tf:=by
 obtain ⟨h1,hr⟩:=h1
 obtain ⟨h2,hr2⟩:=h2
 refine ⟨?_,E7.bin_ok hr hr2⟩
 have hpu:=E7.pure (E7.bin_ok (k:=q.1) hr hr2)
 refine EvS.facts (nu:=nuL (opNu s x tt dp z tz r y ty f tf r2)) (args:=[.box 0 0]) (s:=okD 1 9) (s':=okD 50 9) (r:=exA (nI q.1) (.str []) (nI 0) (nI 0) (nI 0) (.str []) (.slice 7 [eA 30,eA 60])) prog_ok (opNu_ok hr hr2) (okRS_eq (List.all_eq_true.1 op_k q hq)) ?_ rfl rfl (by rw [Bool.and_eq_true];exact ⟨hpu,rfl⟩)
 unfold opF
 rw [List.append_assoc]
 refine FactsOk.append ⟨fIs rfl hn rfl,fIs rfl hny rfl,fst1 h1 rfl rfl rfl rfl rfl,fst1 (next_ev z dp hy) rfl rfl rfl rfl rfl,fst1 h2 rfl rfl rfl rfl rfl,trivial⟩ (FactsOk.append (FactsOk.of fun g hg=>?_) (FactsOk.of fun g hg=>?_))
 ·obtain ⟨m,hm,rfl⟩:=List.mem_map.1 hg
  exact fIs rfl (hz m hm) rfl
 ·obtain ⟨m,hm,rfl⟩:=List.mem_map.1 hg
  exact fIs rfl (hf m hm) rfl
end
end Go.Proofs.YtdlkibeljkapeaaGreatDoor.Den
namespace Go.Proofs.YtdlkibeljkapeaaGreatDoor.Den
open Go Go.RowKit
section
variable {s:List UInt8} {x z y f:Sg} {tt tu tz ty tf dp:Nat} {r:E7}
theorem any_isn (hn:isM x (kw "not")=false) (h1:One s x tt dp r z tz) (hz:∀ m∈["*", "+", "-", "=", "<>", "<", "<="],isM z (kw m)=false) (hi:isM z (kw "is")=true) (hy:Rd s tz y ty) (hy2:isM y (kw "null")=true) (hf:Rd s ty f tf) (e1:isM f (kw "and")=false) (e2:isM f (kw "or")=false):Any s x tt dp (E7.un 5 r) f tf:=by
 obtain ⟨h1,hr⟩:=h1
 refine ⟨?_,E7.un_ok hr⟩
 have hpu:=E7.pure (E7.un_ok (k:=5) hr)
 refine EvS.facts (nu:=nuL (opNu s x tt dp z tz r y ty f tf E7.zero)) (args:=[.box 0 0]) (s:=okD 1 9) (s':=okD 50 9) (r:=exA (nI 5) (.str []) (nI 0) (nI 0) (nI 0) (.str []) (.slice 7 [eA 30])) prog_ok (opNu_ok hr rfl) (okRS_eq isn_k) ?_ rfl rfl (by rw [Bool.and_eq_true];exact ⟨hpu,rfl⟩)
 unfold isnF
 rw [List.append_assoc]
 refine FactsOk.append ⟨fIs rfl hn rfl,fst1 h1 rfl rfl rfl rfl rfl,trivial⟩ (FactsOk.append (FactsOk.of fun g hg=>?_) ⟨fIs rfl hi rfl,fst1 (next_ev z dp hy) rfl rfl rfl rfl rfl,fIs rfl hy2 rfl,fst1 (next_ev y dp hf) rfl rfl rfl rfl rfl,fIs rfl e1 rfl,fIs rfl e2 rfl,trivial⟩)
 obtain ⟨m,hm,rfl⟩:=List.mem_map.1 hg
 exact fIs rfl (hz m hm) rfl
def Not (s:List UInt8) (x:Sg) (tt dp:Nat) (r:E7) (z:Sg) (tz:Nat):Prop:=EvS PG f_sql_parser_not [.box 0 0] (okL s x tt dp) r.pv (okL s z tz dp)∧r.ok=true
theorem not_one (hn:isM x (kw "not")=false) (h:One s x tt dp r z tz) (hz:∀ m∈stops,isM z (kw m)=false):Not s x tt dp r z tz:=by
 obtain ⟨h,hr⟩:=h
 refine ⟨?_,hr⟩
 have hpu:=E7.pure hr
 have hnu:NuOk (nuL (onNu s x tt dp x tt (sv z tz) r x tt)):=onNu_ok rfl hr
 refine EvS.facts (nu:=nuL (onNu s x tt dp x tt (sv z tz) r x tt)) (args:=[.box 0 0]) (s:=okD 1 9) (s':=okD 20 9) prog_ok hnu (okRS_eq nt_k) ⟨fIs rfl hn rfl,fst1 h rfl rfl rfl rfl rfl,FactsOk.of fun f hf=>?_⟩ rfl rfl (by rw [Bool.and_eq_true];exact ⟨hpu,rfl⟩)
 obtain ⟨m,hm,rfl⟩:=List.mem_map.1 hf
 exact fIs rfl (hz m hm) rfl
theorem any_not (hn:isM x (kw "not")=true) (hd:dp < 12) (hy:Rd s tt y tu) (h:Not s y tu (dp+1) r z tz) (e1:isM z (kw "and")=false) (e2:isM z (kw "or")=false):Any s x tt dp (E7.un 3 r) z tz:=by
 obtain ⟨h,hr⟩:=h
 refine ⟨?_,E7.un_ok hr⟩
 have hpu:=E7.pure (E7.un_ok (k:=3) hr)
 have hnu:NuOk (nuL (onNu s x tt dp y tu (sv z tz) r x tt)):=onNu_ok rfl hr
 exact EvS.facts (nu:=nuL (onNu s x tt dp y tu (sv z tz) r x tt)) (args:=[.box 0 0]) (s:=okD 1 9) (s':=okD 20 9) prog_ok hnu (okRS_eq no_k)
  (FactsOk.append ⟨fIs rfl hn rfl,fst1 h rfl rfl rfl rfl rfl,fIs rfl e1 rfl,fIs rfl e2 rfl,trivial⟩ (up_ok rfl rfl hd rfl rfl hy)) rfl rfl (by rw [Bool.and_eq_true];exact ⟨hpu,rfl⟩)
theorem ol_k:okRS (litE 20) (okD 10 9) (callF PG (fOrc noOwn [.st f_sql_parser_constant [.box 0 0] (okD 1 9) (litP 20) (okD 10 9)]) 20 f_sql_parser_one [.box 0 0] (okD 1 9))=true:=by kernel_rfl
theorem one_lit {v:V4} (h:Const s x tt dp v z tz):One s x tt dp (E7.lit v) z tz:=by
 refine ⟨?_,by rfl⟩
 exact EvS.facts (nu:=nuL (coNu s x tt dp z tz v z tz)) (args:=[.box 0 0]) (s:=okD 1 9) (s':=okD 10 9) (r:=litE 20) prog_ok (nuL_okB rfl) (okRS_eq ol_k) ⟨fst1 h rfl rfl rfl rfl rfl,trivial⟩ rfl rfl rfl
end
end Go.Proofs.YtdlkibeljkapeaaGreatDoor.Den
namespace Go.Proofs.YtdlkibeljkapeaaGreatDoor.Den
open Go Go.RowKit
inductive Xp where
 | lit (v:V4) (t:List UInt8)
 | col (w:List UInt8)
 | neg (a:Xp)
 | not (a:Xp)
 | isn (a:Xp)
 | op (i:Nat) (a b:Xp)
def opW (i:Nat):List UInt8:=kw (opsL.getD i (0, "")).2
def Xp.leaf:Xp→Bool
 | .lit _ _ | .col _=>true
 | _=>false
def brk (b:Bool) (t:List UInt8):List UInt8:=match b with|true=>t|false=>[40]++t++[41]
def Xp.txt:Xp→List UInt8
 | .lit _ t=>t
 | .col w=>w
 | .neg a=>[45,40]++a.txt++[41]
 | .not a=>[110,111,116,32]++brk a.leaf a.txt
 | .isn a=>brk a.leaf a.txt++isnB
 | .op i a b=>brk a.leaf a.txt++[32]++opW i++[32]++brk b.leaf b.txt
def Xp.e7:Xp→E7
 | .lit v _=>E7.lit v
 | .col w=>E7.col w
 | .neg a=>E7.un 4 a.e7
 | .not a=>E7.un 3 a.e7
 | .isn a=>E7.un 5 a.e7
 | .op i a b=>E7.bin (opsL.getD i (0, "")).1 a.e7 b.e7
def brd (b:Bool) (n:Nat):Nat:=match b with|true=>0|false=>n+1
def Xp.dpt:Xp→Nat
 | .lit _ _ | .col _=>0
 | .neg a=>a.dpt+2
 | .not a=>brd a.leaf a.dpt+1
 | .isn a=>brd a.leaf a.dpt
 | .op _ a b=>max (brd a.leaf a.dpt) (brd b.leaf b.dpt)
def Gap (g:List UInt8):Prop:=∃ r,g=32::r∧r.all isBlank=true
theorem Gap.one:Gap [32]:=⟨[],rfl,rfl⟩
def brkP (b:Bool) (P:List UInt8→Prop) (x:List UInt8):Prop:=match b with|true=>P x|false=>∃ u,P u∧x=[40]++u++[41]
def Xp.wr:Xp→List UInt8→Prop
 | .lit _ t,x=>x=t
 | .col w,x=>x=w
 | .neg a,x=>∃ u,a.wr u∧x=[45,40]++u++[41]
 | .not a,x=>∃ g u,Gap g∧brkP a.leaf a.wr u∧x=[110,111,116]++g++u
 | .isn a,x=>∃ u g1 g2,Gap g1∧Gap g2∧brkP a.leaf a.wr u∧x=u++g1++[105,115]++g2++[110,117,108,108]
 | .op i a b,x=>∃ u g1 g2 v,Gap g1∧Gap g2∧brkP a.leaf a.wr u∧brkP b.leaf b.wr v∧x=u++g1++opW i++g2++v
theorem brkP_brk {b:Bool} {P:List UInt8→Prop} {x:List UInt8} (h:P x):brkP b P (brk b x):=by
 cases b with
 | true=>exact h
 | false=>exact ⟨x,h,rfl⟩
theorem Xp.wr_txt:∀ e:Xp,e.wr e.txt
 | .lit _ _=>rfl
 | .col _=>rfl
 | .neg a=>⟨_,a.wr_txt,rfl⟩
 | .not a=>⟨[32],_,Gap.one,brkP_brk a.wr_txt,rfl⟩
 | .isn a=>⟨_,[32],[32],Gap.one,Gap.one,brkP_brk a.wr_txt,by simp [Xp.txt,isnB]⟩
 | .op i a b=>⟨_,[32],[32],_,Gap.one,Gap.one,brkP_brk a.wr_txt,brkP_brk b.wr_txt,rfl⟩
end Go.Proofs.YtdlkibeljkapeaaGreatDoor.Den
namespace Go.Proofs.YtdlkibeljkapeaaGreatDoor.Den
open Go Go.RowKit
def Xp.wf:Xp→Prop
 | .lit v t=>LitOk v t∧nobl t
 | .col w=>∃ c r,w=c::r∧isSmall c=true∧r.all isInner=true∧r.length≤11∧keysL.contains w=false
 | .neg a | .not a | .isn a=>a.wf
 | .op i a b=>i < 9∧a.wf∧b.wf
def OneAt (s:List UInt8) (i j dp:Nat) (r:E7):Prop:=∃ y tu,Rd s i y tu∧isM y (kw "not")=false∧∀ z tz,Rd s j z tz→One s y tu dp r z tz
def AnyAt (s:List UInt8) (i j dp:Nat) (r:E7):Prop:=∃ y tu,Rd s i y tu∧∀ z tz,Rd s j z tz→(∀ w∈stops,isM z (kw w)=false)→Any s y tu dp r z tz
section
variable {s:List UInt8} (hs:s.length≤4000)
include hs
theorem at_lit {v:V4} {t:List UInt8} (h:LitOk v t) {i dp:Nat} {g rest:List UInt8} (hi:i≤s.length) (hg:g.all isBlank=true) (hr:endOk rest=true) (hd:s.drop i=g++(t++rest)):OneAt s i (i+g.length+t.length) dp (E7.lit v):=by
 obtain ⟨y,tu,hy,hn,hc⟩:=h.rd hs hi hg hr hd
 exact ⟨y,tu,hy,hn,fun z tz hz=>one_lit (hc dp z tz hz)⟩
theorem at_col {c:UInt8} {r:List UInt8} (hc:isSmall c=true) (hr':r.all isInner=true) (hl:r.length≤11) (hk:keysL.contains (c::r)=false) {i dp:Nat} {g rest:List UInt8} (hi:i≤s.length) (hg:g.all isBlank=true) (hr:endOk rest=true) (hd:s.drop i=g++((c::r)++rest)) :
  OneAt s i (i+g.length+(c::r).length) dp (E7.col (c::r)):=by
 obtain ⟨h1,_,_,h4⟩:=endOk_facts hr
 have hrd:=rd_word (s:=s) (by omega) hi hd hg hc hr' h1 (fun _ _=>h4) hl
 have e:wordSg (c::r) (i+g.length)=⟨2,(i+g.length:Nat),c::r,v0,0⟩:=by
  unfold wordSg
  rw [hk];rfl
 rw [e] at hrd
 have hm:∀ m,isM ⟨2,(i+g.length:Nat),c::r,v0,0⟩ m=false:=fun m=>rfl
 exact ⟨_,_,hrd,hm _,fun z tz hz=>one_name ⟨show (2:Int)≠4 by decide,show (2:Int)≠3 by decide,hm _,hm _,hm _,fun h=>by cases h⟩ (hm _) (hm _) rfl hz⟩
theorem at_par {r:E7} {i j dp:Nat} {g:List UInt8} {rest:List UInt8} (hi:i≤s.length) (hg:g.all isBlank=true) (hd:s.drop i=g++(mkW 2++rest)) (hdp:dp < 12) (hj:j≤s.length) {rest2:List UInt8} (hd2:s.drop j=mkW 3++rest2) (h:AnyAt s (i+g.length+1) j (dp+1) r):OneAt s i (j+1) dp r:=by
 have r0:=rd_mark' (s:=s) (by omega) hi 2 (by decide) (by decide) hd hg
 obtain ⟨y,tu,hy,ha⟩:=h
 have r1:=rd_mark' (s:=s) (g:=[]) (by omega) hj 3 (by decide) (by decide) (by rw [List.nil_append];exact hd2) rfl
 refine ⟨_,_,r0,rfl,fun z tz hz=>one_par ⟨show (5:Int)≠4 by decide,show (5:Int)≠3 by decide,rfl,rfl,rfl,fun h=>by cases h⟩ rfl rfl hdp hy (ha _ _ r1 (fun w hw=>?_)) rfl hz⟩
 simp only [stops,List.mem_cons,List.not_mem_nil,or_false] at hw
 rcases hw with rfl|rfl|rfl|rfl|rfl|rfl|rfl|rfl|rfl|rfl<;>rfl
end
end Go.Proofs.YtdlkibeljkapeaaGreatDoor.Den
namespace Go.Proofs.YtdlkibeljkapeaaGreatDoor.Den
open Go Go.RowKit
theorem and_w (a:Nat):wordSg (97::[110,100]) a=⟨1,a,kw "and", v0,0⟩:=by
 have:keysL.contains (97::[110,100])=true:=by kernel_rfl
 unfold wordSg
 rw [this];rfl
theorem or_w (a:Nat):wordSg (111::[114]) a=⟨1,a,kw "or", v0,0⟩:=by
 have:keysL.contains (111::[114])=true:=by kernel_rfl
 unfold wordSg
 rw [this];rfl
section
variable {s:List UInt8} (hs:s.length≤4000)
include hs
theorem op_sign {j i:Nat} (hi:i < 9) {g rest:List UInt8} (hg:g.all isBlank=true) (hj:j≤s.length) (hd:s.drop j=g++(opW i++(32::rest))):∃ z,Rd s j z (j+g.length+(opW i).length)∧∀ w∈stops,isM z (kw w)=(w==(opsL.getD i (0, "")).2):=by
 have hmk:∀ (k a:Nat) (m:String),(stops.all fun w=>(mkW k==kw w)==(w==m))=true→∀ w∈stops,isM (markSg k a) (kw w)=(w==m):=fun k a m h w hw=>by
  have:=List.all_eq_true.1 h w hw
  rw [beq_iff_eq] at this
  exact this
 match i,hi,hd with
 | 0,_,hd=>exact ⟨_,rd_mark' (s:=s) (by omega) hj 10 (by decide) (by decide) hd hg,hmk _ _ _ (by decide)⟩
 | 1,_,hd=>exact ⟨_,rd_mark' (s:=s) (by omega) hj 8 (by decide) (by decide) hd hg,hmk _ _ _ (by decide)⟩
 | 2,_,hd=>exact ⟨_,rd_mark' (s:=s) (by omega) hj 9 (by decide) (by decide) hd hg,hmk _ _ _ (by decide)⟩
 | 3,_,hd=>exact ⟨_,rd_mark' (s:=s) (by omega) hj 6 (by decide) (by decide) hd hg,hmk _ _ _ (by decide)⟩
 | 4,_,hd=>exact ⟨_,rd_mark' (s:=s) (by omega) hj 0 (by decide) (by decide) hd hg,hmk _ _ _ (by decide)⟩
 | 5,_,hd =>
  refine ⟨_,rd_mark (s:=s) (by omega) hj 7 (by decide) hd hg (fun j hj=>?_),hmk _ _ _ (by decide)⟩
  match j,hj with
  | 0,_|1,_|2,_|3,_|4,_|5,_|6,_|7,_=>rfl
 | 6,_,hd=>exact ⟨_,rd_mark' (s:=s) (by omega) hj 1 (by decide) (by decide) hd hg,hmk _ _ _ (by decide)⟩
 | 7,_,hd =>
  have h:=rd_word (s:=s) (by omega) hj (c:=97) (w:=[110,100]) hd hg rfl rfl rfl (fun h=>absurd h (by decide)) (by decide)
  rw [and_w] at h
  exact ⟨_,h,fun w hw=>by
   simp only [stops,List.mem_cons,List.not_mem_nil,or_false] at hw
   rcases hw with rfl|rfl|rfl|rfl|rfl|rfl|rfl|rfl|rfl|rfl<;>rfl⟩
 | 8,_,hd =>
  have h:=rd_word (s:=s) (by omega) hj (c:=111) (w:=[114]) hd hg rfl rfl rfl (fun h=>absurd h (by decide)) (by decide)
  rw [or_w] at h
  exact ⟨_,h,fun w hw=>by
   simp only [stops,List.mem_cons,List.not_mem_nil,or_false] at hw
   rcases hw with rfl|rfl|rfl|rfl|rfl|rfl|rfl|rfl|rfl|rfl<;>rfl⟩
end
end Go.Proofs.YtdlkibeljkapeaaGreatDoor.Den
namespace Go.Proofs.YtdlkibeljkapeaaGreatDoor.Den
open Go Go.RowKit
theorem not_w (a:Nat):wordSg (110::[111,116]) a=⟨1,a,kw "not", v0,0⟩:=by
 have:keysL.contains (110::[111,116])=true:=by kernel_rfl
 unfold wordSg
 rw [this];rfl
section
variable {s:List UInt8} (hs:s.length≤4000)
include hs
theorem one_of_any (e:Xp) (hw:e.wf) (ih:∀ {t:List UInt8},e.wr t→∀ {i dp:Nat} {g rest:List UInt8},i≤s.length→g.all isBlank=true→endOk rest=true→s.drop i=g++(t++rest)→dp+e.dpt≤12→AnyAt s i (i+g.length+t.length) dp e.e7)
  {t:List UInt8} (ht:brkP e.leaf e.wr t) {i dp:Nat} {g rest:List UInt8} (hi:i≤s.length) (hg:g.all isBlank=true) (hr:endOk rest=true) (hd:s.drop i=g++(t++rest)) (hdp:dp+brd e.leaf e.dpt≤12):OneAt s i (i+g.length+t.length) dp e.e7:=by
 have non:e.leaf=false→OneAt s i (i+g.length+t.length) dp e.e7:=fun hl=>by
  rw [hl] at ht hdp
  obtain ⟨u,hu,rfl⟩:=ht
  have hd0:s.drop i=g++(mkW 2++(u++(41::rest))):=by
   rw [hd]
   show g++([40]++u++[41]++rest)=g++([40]++(u++(41::rest)))
   simp
  have hd1:s.drop (i+g.length+1)=[]++(u++(41::rest)):=by
   have:=drop_more (g:=mkW 2) (drop_more hd0)
   rw [List.nil_append];exact this
  have hdp':dp+(e.dpt+1)≤12:=hdp
  have hlen:i+g.length+1+(u.length+(1+rest.length))=s.length∨s.length < i+g.length+1:=by
   have:=congrArg List.length hd1
   simp only [List.length_drop,List.length_append,List.length_nil,List.length_cons] at this
   omega
  have hil:=(drop_le (show s.drop (i+g.length)=40::(u++(41::rest)) from drop_more hd0)).1
  have ha:=ih hu (i:=i+g.length+1) (dp:=dp+1) (g:=[]) (rest:=41::rest) (by omega) rfl rfl hd1 (by omega)
  have hd2:s.drop (i+g.length+1+([]:List UInt8).length+u.length)=mkW 3++rest:=drop_more (g:=u) (drop_more hd1)
  have h:=at_par hs hi hg hd0 (by omega) (by simp only [List.length_nil];omega) hd2 ha
  have el:i+g.length+([40]++u++[41]).length=i+g.length+1+([]:List UInt8).length+u.length+1:=by
   simp;omega
  rw [el]
  exact h
 match e,hw,ht,non with
 | .lit v t',hw,ht,_ =>
  obtain rfl:t=t':=ht
  exact at_lit hs hw.1 hi hg hr hd
 | .col w,hw,ht,_ =>
  obtain rfl:t=w:=ht
  obtain ⟨c,r,rfl,h1,h2,h3,h4⟩:=hw
  exact at_col hs h1 h2 h3 h4 hi hg hr hd
 | .neg a,_,_,non=>exact non rfl
 | .not a,_,_,non=>exact non rfl
 | .isn a,_,_,non=>exact non rfl
 | .op k a b,_,_,non=>exact non rfl
end
end Go.Proofs.YtdlkibeljkapeaaGreatDoor.Den
namespace Go.Proofs.YtdlkibeljkapeaaGreatDoor.Den
open Go Go.RowKit
section
variable {s:List UInt8} (hs:s.length≤4000)
include hs
omit hs in
theorem any_of_one {i j dp:Nat} {r:E7} (h:OneAt s i j dp r):AnyAt s i j dp r:=by
 obtain ⟨y,tu,hy,hn,h⟩:=h
 exact ⟨y,tu,hy,fun z tz hz hst=>any_one hn (h z tz hz) hst⟩
theorem xp_any:∀ (e:Xp),e.wf→∀ {t:List UInt8},e.wr t→∀ {i dp:Nat} {g rest:List UInt8},i≤s.length→g.all isBlank=true→endOk rest=true→s.drop i=g++(t++rest)→dp+e.dpt≤12→AnyAt s i (i+g.length+t.length) dp e.e7
 | .lit v t',hw,t,ht,i,dp,g,rest,hi,hg,hr,hd,_=>by
  obtain rfl:t=t':=ht
  exact any_of_one (at_lit hs hw.1 hi hg hr hd)
 | .col w,hw,t,ht,i,dp,g,rest,hi,hg,hr,hd,_=>by
  obtain rfl:t=w:=ht
  obtain ⟨c,r,rfl,h1,h2,h3,h4⟩:=hw
  exact any_of_one (at_col hs h1 h2 h3 h4 hi hg hr hd)
 | .neg a,hw,t,ht,i,dp,g,rest,hi,hg,hr,hd,hdp=>by
  obtain ⟨u,hu,rfl⟩:=ht
  have hdp':dp+(a.dpt+2)≤12:=hdp
  have hd0:s.drop i=g++(mkW 9++(mkW 2++(u++(41::rest)))):=by
   rw [hd]
   show g++([45,40]++u++[41]++rest)=g++([45]++([40]++(u++(41::rest))))
   simp
  have r0:=rd_mark' (s:=s) (by omega) hi 9 (by decide) (by decide) hd0 hg
  have hd1:s.drop (i+g.length+1)=[]++(mkW 2++(u++(41::rest))):=by
   have:=drop_more (g:=mkW 9) (drop_more hd0)
   rw [List.nil_append];exact this
  have hil:=(drop_le (show s.drop (i+g.length+1)=40::(u++(41::rest)) from hd1)).1
  have r1:=rd_mark' (s:=s) (by omega) (by omega) 2 (by decide) (by decide) hd1 rfl
  have hd2:s.drop (i+g.length+1+([]:List UInt8).length+1)=[]++(u++(41::rest)):=by
   have:=drop_more (g:=mkW 2) (drop_more hd1)
   rw [List.nil_append];exact this
  obtain ⟨y,tu,hy,ha⟩:=xp_any a hw hu (i:=i+g.length+1+([]:List UInt8).length+1) (dp:=dp+2) (g:=[]) (rest:=41::rest) (by simp only [List.length_nil];omega) rfl rfl hd2 (by omega)
  have hd3:s.drop (i+g.length+1+([]:List UInt8).length+1+([]:List UInt8).length+u.length)=[]++(mkW 3++rest):=drop_more (g:=u) (drop_more hd2)
  have hil3:=(drop_le (show s.drop (i+g.length+1+([]:List UInt8).length+1+([]:List UInt8).length+u.length)=41::rest from hd3)).1
  have r3:=rd_mark' (s:=s) (by omega) (by omega) 3 (by decide) (by decide) hd3 rfl
  have el:i+g.length+([45,40]++u++[41]).length=i+g.length+1+([]:List UInt8).length+1+([]:List UInt8).length+u.length+([]:List UInt8).length+1:=by
   simp;omega
  rw [el]
  refine ⟨_,_,r0,fun z tz hz hst=>any_one rfl (one_neg ⟨show (5:Int)≠4 by decide,show (5:Int)≠3 by decide,rfl,rfl,rfl,fun _=>⟨_,_,r1,show (5:Int)≠3 by decide⟩⟩ rfl rfl (by omega) r1
   (one_par ⟨show (5:Int)≠4 by decide,show (5:Int)≠3 by decide,rfl,rfl,rfl,fun h=>by cases h⟩ rfl rfl (by omega) hy (ha _ _ r3 (fun w hw=>?_)) rfl hz)) hst⟩
  simp only [stops,List.mem_cons,List.not_mem_nil,or_false] at hw
  rcases hw with rfl|rfl|rfl|rfl|rfl|rfl|rfl|rfl|rfl|rfl<;>rfl
 | .not a,hw,t,ht,i,dp,g,rest,hi,hg,hr,hd,hdp=>by
  obtain ⟨g1,u,⟨r,rfl,hg1⟩,hu,rfl⟩:=ht
  have hdp':dp+(brd a.leaf a.dpt+1)≤12:=hdp
  have hd0:s.drop i=g++((110::[111,116])++((32::r)++(u++rest))):=by
   rw [hd];simp
  have r0:=rd_word (s:=s) (by omega) hi hd0 hg rfl rfl rfl (fun h=>absurd h (by decide)) (by decide)
  rw [not_w] at r0
  have hd1:=drop_more (g:=110::[111,116]) (drop_more hd0)
  have hil:=(drop_le (show s.drop (i+g.length+3)=32::(r++(u++rest)) from hd1)).1
  obtain ⟨y,tu,hy,hn,h⟩:=one_of_any hs a hw (fun hu=>xp_any a hw hu) hu (i:=i+g.length+3) (dp:=dp+1) (g:=32::r) (by omega) (by simpa [isBlank] using hg1) hr hd1 (by omega)
  have el:i+g.length+([110,111,116]++(32::r)++u).length=i+g.length+3+(32::r).length+u.length:=by
   simp;omega
  rw [el]
  exact ⟨_,_,r0,fun z tz hz hst=>any_not rfl (by omega) hy (not_one hn (h z tz hz) hst) (hst "and" (by decide)) (hst "or" (by decide))⟩
 | .isn a,hw,t,ht,i,dp,g,rest,hi,hg,hr,hd,hdp=>by
  obtain ⟨u,g1,g2,⟨p,rfl,hp⟩,⟨q,rfl,hq⟩,hu,rfl⟩:=ht
  have hp':(32::p).all isBlank=true:=by simpa [isBlank] using hp
  have hq':(32::q).all isBlank=true:=by simpa [isBlank] using hq
  have hd0:s.drop i=g++(u++((32::p)++((105::[115])++((32::q)++((110::[117,108,108])++rest))))):=by
   rw [hd];simp
  obtain ⟨y,tu,hy,hn,h⟩:=one_of_any hs a hw (fun hu=>xp_any a hw hu) hu hi hg rfl hd0 hdp
  have hd1:=drop_more (g:=u) (drop_more hd0)
  have hil:=(drop_le (show s.drop (i+g.length+u.length)=32::_ from hd1)).1
  have r2:=rd_word (s:=s) (by omega) (by omega) hd1 hp' rfl rfl rfl (fun h=>absurd h (by decide)) (by decide)
  rw [is_w] at r2
  have hd2:=drop_more (g:=105::[115]) (drop_more hd1)
  have hil2:=(drop_le (show s.drop (i+g.length+u.length+(32::p).length+2)=32::_ from hd2)).1
  have r3:=rd_word (s:=s) (i:=i+g.length+u.length+(32::p).length+2) (by omega) (by omega) hd2 hq' rfl rfl (endOk_facts hr).1 (fun h=>absurd h (by decide)) (by decide)
  rw [null_w] at r3
  have el:i+g.length+(u++(32::p)++[105,115]++(32::q)++[110,117,108,108]).length=i+g.length+u.length+(32::p).length+2+(32::q).length+4:=by
   simp;omega
  rw [el]
  refine ⟨y,tu,hy,fun z tz hz hst=>any_isn hn (h _ _ r2) (fun m hm=>?_) rfl r3 rfl hz (hst "and" (by decide)) (hst "or" (by decide))⟩
  simp only [List.mem_cons,List.not_mem_nil,or_false] at hm
  rcases hm with rfl|rfl|rfl|rfl|rfl|rfl|rfl<;>rfl
 | .op k a b,hw,t,ht,i,dp,g,rest,hi,hg,hr,hd,hdp=>by
  obtain ⟨u,g1,g2,v,⟨p,rfl,hp⟩,⟨q,rfl,hq⟩,hu,hv,rfl⟩:=ht
  have hp':(32::p).all isBlank=true:=by simpa [isBlank] using hp
  have hq':(32::q).all isBlank=true:=by simpa [isBlank] using hq
  have hdp':dp+max (brd a.leaf a.dpt) (brd b.leaf b.dpt)≤12:=hdp
  obtain ⟨hk,hwa,hwb⟩:=hw
  have hd0:s.drop i=g++(u++((32::p)++(opW k++(32::(q++(v++rest)))))):=by
   rw [hd];simp
  obtain ⟨y,tu,hy,hn,h⟩:=one_of_any hs a hwa (fun hu=>xp_any a hwa hu) hu (dp:=dp) hi hg rfl hd0 (by omega)
  have hd1:=drop_more (g:=u) (drop_more hd0)
  have hil:=(drop_le (show s.drop (i+g.length+u.length)=32::_ from hd1)).1
  obtain ⟨z1,r1,hz1⟩:=op_sign hs hk hp' (by omega) hd1
  have hd2:s.drop (i+g.length+u.length+(32::p).length+(opW k).length)=(32::q)++(v++rest):=drop_more (g:=opW k) (drop_more (g:=32::p) hd1)
  have hil2:=(drop_le (show s.drop (i+g.length+u.length+(32::p).length+(opW k).length)=32::_ from hd2)).1
  obtain ⟨y2,tu2,hy2,hn2,h2⟩:=one_of_any hs b hwb (fun hu=>xp_any b hwb hu) hv (i:=i+g.length+u.length+(32::p).length+(opW k).length) (dp:=dp) (g:=32::q) (by omega) hq' hr hd2 (by omega)
  have el:i+g.length+(u++(32::p)++opW k++(32::q)++v).length=i+g.length+u.length+(32::p).length+(opW k).length+(32::q).length+v.length:=by
   simp;omega
  rw [el]
  have hq:opsL.getD k (0, "")∈opsL:=by
   rw [List.getD_eq_getElem?_getD,List.getElem?_eq_getElem (show k < opsL.length from hk)]
   exact List.getElem_mem _
  exact ⟨y,tu,hy,fun z tz hz hst=>any_op hq hn (h _ _ r1) hz1 hy2 hn2 (h2 z tz hz) hst⟩
end
end Go.Proofs.YtdlkibeljkapeaaGreatDoor.Den
namespace Go.Proofs.YtdlkibeljkapeaaGreatDoor.Den
open Go Go.RowKit
end Go.Proofs.YtdlkibeljkapeaaGreatDoor.Den
namespace Go.Proofs.YtdlkibeljkapeaaGreatDoor.Den
open Go Go.RowKit
end Go.Proofs.YtdlkibeljkapeaaGreatDoor.Den
namespace Go.Proofs.YtdlkibeljkapeaaGreatDoor.Den
open Go Go.RowKit
theorem e7_ok:∀ (e:Xp),e.e7.ok=true
 | .lit _ _=>rfl
 | .col _=>rfl
 | .neg a=>E7.un_ok (e7_ok a)
 | .not a=>E7.un_ok (e7_ok a)
 | .isn a=>E7.un_ok (e7_ok a)
 | .op _ a b=>E7.bin_ok (e7_ok a) (e7_ok b)
end Go.Proofs.YtdlkibeljkapeaaGreatDoor.Den
namespace Go.Proofs.YtdlkibeljkapeaaGreatDoor.Den
open Go Go.RowKit
end Go.Proofs.YtdlkibeljkapeaaGreatDoor.Den
namespace Go.Proofs.YtdlkibeljkapeaaGreatDoor.Den
open Go Go.RowKit
inductive RawT where
 | mk (k n:Int) (s:List UInt8) (nl:Nat) (l:List RawT)
mutual
def RawT.pv:RawT→PV
 | .mk k n s nl l=>.agg [nI k,nI n, .str s,(match nl with|0=>.nilslice|1=>.eslice|_=>.slice 4 (RawT.pvs l))]
def RawT.pvs:List RawT→List PV
 | []=>[]
 | r::l=>RawT.pv r::RawT.pvs l
end
def RawT.k:RawT→Int | .mk k _ _ _ _=>k
def RawT.n:RawT→Int | .mk _ n _ _ _=>n
def RawT.s:RawT→List UInt8 | .mk _ _ s _ _=>s
def RawT.nl:RawT→Nat | .mk _ _ _ nl _=>nl
def RawT.l:RawT→List RawT | .mk _ _ _ _ l=>l
def nlOk (nl:Nat) (l:List RawT):Prop:=nl < 2→l=[]
abbrev In64 (n:Int):Prop:=-9223372036854775808≤n∧n≤9223372036854775807
mutual
def RawT.ok:RawT→Prop
 | .mk k n _ nl l=>(In64 k∧In64 n)∧nlOk nl l∧RawT.oks l
def RawT.oks:List RawT→Prop
 | []=>True
 | r::l=>RawT.ok r∧RawT.oks l
end
end Go.Proofs.YtdlkibeljkapeaaGreatDoor.Den
namespace Go.Proofs.YtdlkibeljkapeaaGreatDoor.Den
open Go Go.RowKit
open Go.ChangeShapes Go.WideShapes Go.Joins
end Go.Proofs.YtdlkibeljkapeaaGreatDoor.Den
namespace Go.Proofs.YtdlkibeljkapeaaGreatDoor.Den
open Go Go.RowKit
open Go.Proofs.YtdlkibeljkapeaaGreatDoor.B
end Go.Proofs.YtdlkibeljkapeaaGreatDoor.Den
namespace Go.Proofs.YtdlkibeljkapeaaGreatDoor.Den
open Go Go.RowKit
open Go.Proofs.YtdlkibeljkapeaaGreatDoor.B
theorem E7.ps {r:E7} (h:r.ok=true):(r.pv.pure&&r.pv.shut2)=true:=by
 have h1:=E7.pure h
 simp only [E7.ok,E7.L,List.all_cons,List.all_nil,Bool.and_eq_true,Bool.and_true] at h
 rw [h1,Bool.true_and]
 simp [E7.pv,E7.L,PV.shut2,PV.shut,h]
theorem wN (n:Int) (m:Int) (h0:0 < m) (h1:m≤1000):∃ k:Nat,wthn n m=k∧(k:Int) < m:=by
 obtain ⟨k,h2,h3⟩:=wthn_nat n m.toNat (by omega) (by omega)
 have e:((m.toNat:Nat):Int)=m:=by omega
 rw [e] at h2
 exact ⟨k,h2,by omega⟩
end Go.Proofs.YtdlkibeljkapeaaGreatDoor.Den
namespace Go.Proofs.YtdlkibeljkapeaaGreatDoor.Den
open Go Go.RowKit
end Go.Proofs.YtdlkibeljkapeaaGreatDoor.Den
namespace Go.Proofs.YtdlkibeljkapeaaGreatDoor.Den
open Go Go.RowKit
structure XpOk (e:Xp):Prop where
 wf:e.wf
 dp:e.dpt≤12
 len:e.txt.length≤25600
set_option maxRecDepth 20000 in
theorem end_stops (a:Nat):∀ w∈stops,isM (endSg a) (kw w)=false:=by
 intro w hw
 simp only [stops,List.mem_cons,List.not_mem_nil,or_false] at hw
 rcases hw with rfl|rfl|rfl|rfl|rfl|rfl|rfl|rfl|rfl|rfl<;>rfl
end Go.Proofs.YtdlkibeljkapeaaGreatDoor.Den
namespace Go.Proofs.YtdlkibeljkapeaaGreatDoor.Den
open Go Go.RowKit
def kwS (w:String) (j:Nat):List Res:=okP (.atom 0) (nI 1) (.atom j) (.str (kw w)) (nI 0) (nI 0) (nI 0) (.str []) (.atom (j+1)) (nI 0)
def nmS (n j:Nat):List Res:=okP (.atom 0) (nI 2) (.atom j) (.atom n) (nI 0) (nI 0) (nI 0) (.str []) (.atom (j+1)) (nI 0)
def mkS (m j:Nat):List Res:=okP (.atom 0) (nI 5) (.atom j) (.str (mkW m)) (nI 0) (nI 0) (nI 0) (.str []) (.atom (j+1)) (nI 0)
def gS (j:Nat):List Res:=okP (.atom 0) (.atom (j+0)) (.atom (j+1)) (.atom (j+2)) (.atom (j+3)) (.atom (j+4)) (.atom (j+5)) (.atom (j+6)) (.atom (j+7)) (nI 0)
abbrev anyT (a:List Res) (e:Nat) (b:List Res):Fact:=.st f_sql_parser_any [.box 0 0] a (eA e) b
def tlS (b:Bool):List Res:=match b with|true=>kwS "where" 30|false=>gS 80
def whF (b:Bool):List Fact:=match b with|true=>[nextT (kwS "where" 30) (gS 50),anyT (gS 50) 70 (gS 80)]|false=>[isT (gS 80) "where" false]
def wE (b:Bool):List PV:=match b with|true=>eaL 70|false=>E7.zero.L
noncomputable abbrev stK (st:List Res) (r:PV) (fs:List Fact):Bool:=okRS r (gS 80) (callF PG (fOrc noOwn fs) 30 f_sql_parser_stmt [.box 0 0] st)
def dropF:List Fact:=[nextT (kwS "drop" 10) (kwS "table" 12),nextT (kwS "table" 12) (nmS 2 14),nextT (nmS 2 14) (gS 80)]
theorem drop_k:stK (kwS "drop" 10) (stmtP (nI 2) tableZ (.atom 2) (.str []) (.str []) .nilslice E7.zero.L E7.zero.L) dropF=true:=by kernel_rfl
def linkF:List Fact:=[nextT (kwS "alter" 10) (kwS "table" 12),nextT (kwS "table" 12) (nmS 2 14),nextT (nmS 2 14) (kwS "add" 16),nextT (kwS "add" 16) (kwS "foreign" 18),nextT (kwS "foreign" 18) (kwS "key" 20),nextT (kwS "key" 20) (mkS 2 22),nextT (mkS 2 22) (nmS 3 24),nextT (nmS 3 24) (mkS 3 26),nextT (mkS 3 26) (kwS "references" 28),nextT (kwS "references" 28) (nmS 4 30),nextT (nmS 4 30) (gS 80)]
theorem link_k:stK (kwS "alter" 10) (stmtP (nI 3) tableZ (.atom 2) (.atom 3) (.atom 4) .nilslice E7.zero.L E7.zero.L) linkF=true:=by kernel_rfl
def updF (b:Bool):List Fact:=[nextT (kwS "update" 10) (nmS 2 12),nextT (nmS 2 12) (kwS "set" 14),nextT (kwS "set" 14) (nmS 3 16),nextT (nmS 3 16) (mkS 6 18),nextT (mkS 6 18) (gS 40),anyT (gS 40) 60 (tlS b)]++whF b
theorem upd_k:bl (fun b=>stK (kwS "update" 10) (stmtP (nI 5) tableZ (.atom 2) (.atom 3) (.str []) .nilslice (eaL 60) (wE b)) (updF b))=true:=by kernel_rfl
def delF (b:Bool):List Fact:=[nextT (kwS "delete" 10) (kwS "from" 12),nextT (kwS "from" 12) (nmS 2 14),nextT (nmS 2 14) (tlS b)]++whF b
theorem del_k:bl (fun b=>stK (kwS "delete" 10) (stmtP (nI 6) tableZ (.atom 2) (.str []) (.str []) .nilslice E7.zero.L (wE b)) (delF b))=true:=by kernel_rfl
def slcF (b:Bool):List Fact:=[nextT (kwS "select" 10) (mkS 10 12),nextT (mkS 10 12) (kwS "from" 14),nextT (kwS "from" 14) (nmS 2 16),nextT (nmS 2 16) (tlS b)]++whF b
theorem slc_k:bl (fun b=>stK (kwS "select" 10) (stmtP (nI 7) tableZ (.atom 2) (.str []) (.str []) .nilslice E7.zero.L (wE b)) (slcF b))=true:=by kernel_rfl
def couF (b:Bool):List Fact:=[nextT (kwS "select" 10) (kwS "count" 12),nextT (kwS "count" 12) (mkS 2 14),nextT (mkS 2 14) (mkS 10 16),nextT (mkS 10 16) (mkS 3 18),nextT (mkS 3 18) (kwS "from" 20),nextT (kwS "from" 20) (nmS 2 22),nextT (nmS 2 22) (tlS b)]++whF b
theorem cou_k:bl (fun b=>stK (kwS "select" 10) (stmtP (nI 8) tableZ (.atom 2) (.str []) (.str []) .nilslice E7.zero.L (wE b)) (couF b))=true:=by kernel_rfl
def cmS (n m:Nat):List Res:=if m+1=n then mkS 3 20 else mkS 4 (190+2*m)
def insF2 (n:Nat):List Fact:=[nextT (kwS "insert" 10) (kwS "into" 12),nextT (kwS "into" 12) (nmS 2 14),nextT (nmS 2 14) (kwS "values" 16),nextT (kwS "values" 16) (mkS 2 18),nextT (mkS 2 18) (gS 100),nextT (mkS 3 20) (gS 80)] ++
 ((List.range n).map (fun m=>.st f_sql_parser_constant [.box 0 0] (gS (100+10*m)) (litP (160+4*m)) (cmS n m))++(List.range (n - 1)).map (fun m=>nextT (mkS 4 (190+2*m)) (gS (100+10*(m+1)))))
def v4A (j:Nat):PV:=.agg [.atom j, .atom (j+1), .atom (j+2), .atom (j+3)]
theorem ins_k2:((List.range 5).all fun n=>stK (kwS "insert" 10) (stmtP (nI 4) tableZ (.atom 2) (.str []) (.str []) (.slice 4 ((List.range (n+1)).map fun m=>v4A (160+4*m))) E7.zero.L E7.zero.L) (insF2 (n+1)))=true:=by kernel_rfl
end Go.Proofs.YtdlkibeljkapeaaGreatDoor.Den
namespace Go.Proofs.YtdlkibeljkapeaaGreatDoor.Den
open Go Go.RowKit
inductive It where
 | w (w:List UInt8)
 | m (k:Nat)
 | x (e:Xp)
 | v (v:V4) (t:List UInt8)
def It.txt:It→List UInt8
 | .w a=>a
 | .m k=>mkW k
 | .x e=>e.txt
 | .v _ t=>t
def It.wr:It→List UInt8→Prop
 | .x e,t=>Xp.wr e t
 | it,t=>t=it.txt
def wdB:List UInt8→Bool
 | c::r=>isSmall c&&(r.all isInner&&Nat.ble r.length 11)
 | []=>false
def It.wf:It→Prop
 | .w a=>wdB a=true
 | .m k=>k < 11∧k≠7
 | .x e=>e.wf∧e.dpt≤12
 | .v b t=>LitOk b t∧nobl t
abbrev Pc:=Bool × It
def gapP (b:Bool) (g:List UInt8):Prop:=match b with|true=>Gap g|false=>g=[]
def Wr:List Pc→List UInt8→Prop
 | [],x=>x=[]
 | p::ps,x=>∃ g t r,gapP p.1 g∧p.2.wr t∧Wr ps r∧x=g++(t++r)
def sp (b:Bool):List UInt8:=match b with|true=>[32]|false=>[]
def pTxt:List Pc→List UInt8
 | []=>[]
 | p::ps=>sp p.1++(p.2.txt++pTxt ps)
theorem gapP_sp (b:Bool):gapP b (sp b):=by
 cases b with
 | true=>exact Gap.one
 | false=>exact rfl
theorem It.wr_txt:∀ it:It,it.wr it.txt
 | .w _=>rfl
 | .m _=>rfl
 | .x e=>e.wr_txt
 | .v _ _=>rfl
theorem Wr_txt:∀ ps:List Pc,Wr ps (pTxt ps)
 | []=>rfl
 | p::ps=>⟨_,_,_,gapP_sp p.1,p.2.wr_txt,Wr_txt ps,rfl⟩
def endW:List UInt8→Bool
 | []=>true
 | c::_=>!isInner c&&c != 39
def jn:It→Pc→Bool
 | .m _,_=>true
 | .w _,(_, .m _)=>true
 | .w _,(b,_)=>b
 | _,(b, .m k)=>b||(Nat.beq k 3||(Nat.beq k 4||Nat.beq k 5))
 | _,(b,_)=>b
def adj:List Pc→Bool
 | p::q::r=>jn p.2 q&&adj (q::r)
 | _=>true
def ItAt (s:List UInt8) (i j:Nat):It→Prop
 | .w w=>∃ a,Rd s i (wordSg w a) j
 | .m k=>∃ a,Rd s i (markSg k a) j
 | .x e=>AnyAt s i j 0 e.e7
 | .v v _=>LitAt s i j v
def Chain (s:List UInt8):List Pc→Nat→Nat→Prop
 | [],i,j=>i=j
 | p::ps,i,j=>∃ k,ItAt s i k p.2∧Chain s ps k j
theorem Chain.append {s:List UInt8}:∀ {ps qs:List Pc} {i j:Nat},Chain s (ps++qs) i j→∃ k,Chain s ps i k∧Chain s qs k j
 | [],_,i,_,h=>⟨i,rfl,h⟩
 | _::_,_,_,_,⟨k,h1,h2⟩=>by
  obtain ⟨m,h3,h4⟩:=Chain.append h2
  exact ⟨m,⟨k,h1,h3⟩,h4⟩
theorem endOk_W:∀ {t:List UInt8},endOk t=true→endW t=true
 | [],_=>rfl
 | c::r,h=>by
  simp only [endOk,Bool.or_eq_true,beq_iff_eq] at h
  rcases h with (((rfl|rfl)|rfl)|rfl)|rfl<;>rfl
theorem mk_head:∀ k,k < 11→∃ c t,mkW k=c::t∧isInner c=false∧c≠39:=by
 intro k hk
 have:((List.range 11).all fun m=>match mkW m with|c::_=>!isInner c&&c != 39 | []=>false)=true:=by decide
 have:=List.all_eq_true.1 this k (by rw [List.mem_range];exact hk)
 cases hq:mkW k with
 | nil=>rw [hq] at this;cases this
 | cons c t =>
  rw [hq] at this
  simp only [Bool.and_eq_true,Bool.not_eq_true',bne_iff_ne] at this
  exact ⟨c,t,rfl,this.1,this.2⟩
def folOk (it:It) (rest:List UInt8):Prop:=match it with | .m _=>True | .w _=>endW rest=true|_=>endOk rest=true
theorem next_end {p:Pc} {ps:List Pc} {x rest:List UInt8} (h:Wr (p::ps) x) (hb:p.1=true):endOk (x++rest)=true:=by
 obtain ⟨g,t,r,hg,_,_,rfl⟩:=h
 rw [hb] at hg
 obtain ⟨q,rfl,_⟩:=hg
 rfl
theorem next_mark {b:Bool} {k:Nat} (hk:k < 11) {ps:List Pc} {x rest:List UInt8} (h:Wr ((b, .m k)::ps) x):endW (x++rest)=true∧((Nat.beq k 3||(Nat.beq k 4||Nat.beq k 5))=true→endOk (x++rest)=true):=by
 cases b with
 | true=>exact ⟨endOk_W (next_end h rfl),fun _=>next_end h rfl⟩
 | false =>
  obtain ⟨g,t,r,hg,ht,_,rfl⟩:=h
  obtain rfl:g=[]:=hg
  obtain rfl:t=mkW k:=ht
  constructor
  ·obtain ⟨c,u,hc,h1,h2⟩:=mk_head k hk
   rw [hc]
   show (!isInner c&&c != 39)=true
   rw [h1]
   simp [h2]
  ·intro h3
   simp only [Bool.or_eq_true,Nat.beq_eq] at h3
   rcases h3 with rfl|rfl|rfl<;>rfl
theorem endW_facts:∀ {t:List UInt8},endW t=true→headNot isInner t=true∧t[0]? ≠ some 39
 | [],_=>⟨rfl,by simp⟩
 | c::r,h=>by
  simp only [endW,Bool.and_eq_true,Bool.not_eq_true',bne_iff_ne] at h
  exact ⟨by show (!isInner c)=true;rw [h.1];rfl,by simpa using h.2⟩
section
variable {s:List UInt8} (hs:s.length≤4000)
include hs
theorem word_at {w:List UInt8} (hw:wdB w=true) {i:Nat} {g rest:List UInt8} (hi:i≤s.length) (hg:g.all isBlank=true) (he:endW rest=true) (hd:s.drop i=g++(w++rest)):∃ j,ItAt s i j (.w w)∧s.drop j=rest∧j≤s.length:=by
 cases w with
 | nil=>cases hw
 | cons c r =>
  simp only [wdB,Bool.and_eq_true,Nat.ble_eq] at hw
  obtain ⟨h1,h2⟩:=endW_facts he
  have h:=rd_word (s:=s) (by omega) hi hd hg hw.1 hw.2.1 h1 (fun _ _=>h2) hw.2.2
  have hd2:=drop_more (g:=c::r) (drop_more hd)
  have hl:i+g.length+(c::r).length≤s.length:=by
   have:=congrArg List.length hd
   simp only [List.length_drop,List.length_append] at this
   omega
  exact ⟨_,⟨_,h⟩,hd2,hl⟩
theorem mark_at {k:Nat} (hk:k < 11∧k≠7) {i:Nat} {g rest:List UInt8} (hi:i≤s.length) (hg:g.all isBlank=true) (hd:s.drop i=g++(mkW k++rest)):∃ j,ItAt s i j (.m k)∧s.drop j=rest∧j≤s.length:=by
 have h:=rd_mark' (s:=s) (by omega) hi k hk.1 hk.2 hd hg
 have hd2:=drop_more (g:=mkW k) (drop_more hd)
 have hl:i+g.length+(mkW k).length≤s.length:=by
  have:=congrArg List.length hd
  simp only [List.length_drop,List.length_append] at this
  omega
 have e:(mkW k).length=if k < 2 then 2 else 1:=by
  have:∀ k,k < 11→(mkW k).length=if k < 2 then 2 else 1:=by decide
  exact this k hk.1
 rw [e] at hd2 hl
 exact ⟨_,⟨_,h⟩,hd2,hl⟩
theorem expr_at {e:Xp} (he:e.wf∧e.dpt≤12) {t:List UInt8} (ht:e.wr t) {i:Nat} {g rest:List UInt8} (hi:i≤s.length) (hg:g.all isBlank=true) (hr:endOk rest=true) (hd:s.drop i=g++(t++rest)):∃ j,ItAt s i j (.x e)∧s.drop j=rest∧j≤s.length:=by
 have h:=xp_any hs e he.1 ht (dp:=0) hi hg hr hd (by omega)
 have hl:i+g.length+t.length≤s.length:=by
  have:=congrArg List.length hd
  simp only [List.length_drop,List.length_append] at this
  omega
 exact ⟨_,h,drop_more (g:=t) (drop_more hd),hl⟩
theorem val_at {v:V4} {t:List UInt8} (he:LitOk v t) {i:Nat} {g rest:List UInt8} (hi:i≤s.length) (hg:g.all isBlank=true) (hr:endOk rest=true) (hd:s.drop i=g++(t++rest)):∃ j,ItAt s i j (.v v t)∧s.drop j=rest∧j≤s.length:=by
 have h:=he.rd hs hi hg hr hd
 have hl:i+g.length+t.length≤s.length:=by
  have:=congrArg List.length hd
  simp only [List.length_drop,List.length_append] at this
  omega
 exact ⟨_,h,drop_more (g:=t) (drop_more hd),hl⟩
theorem item_at {it:It} (hw:it.wf) {t:List UInt8} (ht:it.wr t) {i:Nat} {g rest:List UInt8} (hi:i≤s.length) (hg:g.all isBlank=true) (hr:folOk it rest) (hd:s.drop i=g++(t++rest)):∃ j,ItAt s i j it∧s.drop j=rest∧j≤s.length:=by
 match it,hw,ht,hr with
 | .w w,hw,ht,hr =>
  obtain rfl:t=w:=ht
  exact word_at hs hw hi hg hr hd
 | .m k,hw,ht,_ =>
  obtain rfl:t=mkW k:=ht
  exact mark_at hs hw hi hg hd
 | .x e,hw,ht,hr=>exact expr_at hs hw ht hi hg hr hd
 | .v v t',hw,ht,hr =>
  obtain rfl:t=t':=ht
  exact val_at hs hw.1 hi hg hr hd
theorem chain_of:∀ (ps:List Pc),ps≠[]→(∀ p∈ps,p.2.wf)→adj ps=true→∀ {x g0 rest:List UInt8} {i:Nat},Wr ps x→i≤s.length→g0.all isBlank=true→endOk rest=true→s.drop i=g0++(x++rest)→∃ j,Chain s ps i j∧s.drop j=rest∧j≤s.length
 | [],h,_,_,_,_,_,_,_,_,_,_,_=>absurd rfl h
 | (b,it)::ps,_,hw,ha,x,g0,rest,i,hx,hi,hg0,hr,hd=>by
  have hx':=hx
  obtain ⟨g,t,r,hg,ht,hps,rfl⟩:=hx
  have hgb:(g0++g).all isBlank=true:=by
   rw [List.all_append,hg0,Bool.true_and]
   cases b with
   | true =>
    obtain ⟨q,rfl,hq⟩:=hg
    simpa [isBlank] using hq
   | false =>
    obtain rfl:g=[]:=hg
    rfl
  have hd':s.drop i=(g0++g)++(t++(r++rest)):=by rw [hd];simp
  have hit:=hw (b,it) (by simp)
  have hfol:folOk it (r++rest):=by
   cases ps with
   | nil =>
    obtain rfl:r=[]:=hps
    rw [List.nil_append]
    cases it with
    | w _=>exact endOk_W hr
    | m _=>trivial
    | x _=>exact hr
    | v _ _=>exact hr
   | cons p qs =>
    obtain ⟨b2,it2⟩:=p
    have hw2:=hw (b2,it2) (by simp)
    simp only [adj,Bool.and_eq_true] at ha
    have hj:=ha.1
    cases it with
    | m k=>trivial
    | w a =>
     cases it2 with
     | m k=>exact (next_mark hw2.1 hps).1
     | w _=>exact endOk_W (next_end hps hj)
     | x _=>exact endOk_W (next_end hps hj)
     | v _ _=>exact endOk_W (next_end hps hj)
    | x e =>
     cases it2 with
     | m k =>
      simp only [jn,Bool.or_eq_true] at hj
      rcases hj with h|h
      ·exact next_end hps h
      ·exact (next_mark hw2.1 hps).2 (by simpa using h)
     | w _=>exact next_end hps hj
     | x _=>exact next_end hps hj
     | v _ _=>exact next_end hps hj
    | v c tt =>
     cases it2 with
     | m k =>
      simp only [jn,Bool.or_eq_true] at hj
      rcases hj with h|h
      ·exact next_end hps h
      ·exact (next_mark hw2.1 hps).2 (by simpa using h)
     | w _=>exact next_end hps hj
     | x _=>exact next_end hps hj
     | v _ _=>exact next_end hps hj
  obtain ⟨k,h1,h2,h3⟩:=item_at hs hit ht hi hgb hfol hd'
  cases ps with
  | nil =>
   obtain rfl:r=[]:=hps
   exact ⟨k,⟨k,h1,rfl⟩,h2,h3⟩
  | cons p qs =>
   have ha2:adj (p::qs)=true:=by
    simp only [adj,Bool.and_eq_true] at ha
    exact ha.2
   obtain ⟨j,h4,h5,h6⟩:=chain_of (p::qs) (by simp) (fun q hq=>hw q (by simp at hq ⊢;exact .inr hq)) ha2 (g0:=[]) hps h3 rfl hr h2
   exact ⟨j,⟨k,h1,h4⟩,h5,h6⟩
end
end Go.Proofs.YtdlkibeljkapeaaGreatDoor.Den
namespace Go.Proofs.YtdlkibeljkapeaaGreatDoor.Den
open Go Go.RowKit
def stP (k:Int) (T:List PV) (nm col dst:List UInt8) (row:PV) (e w:E7):PV:=stmtP (nI k) T (.str nm) (.str col) (.str dst) row e.L w.L
def zok (z:Sg):Prop:=isM z (kw "where")=false∧∀ w∈stops,isM z (kw w)=false
def StAt (s:List UInt8) (i j:Nat) (S:PV):Prop:=∃ y tu,Rd s i y tu∧y.k≠0∧∀ z tz,Rd s j z tz→zok z→EvS PG f_sql_parser_stmt [.box 0 0] (okL s y tu 0) S (okL s z tz 0)
theorem kw_rd {s:List UInt8} {i j a:Nat} {w:String} (hk:keysL.contains (kw w)=true) (h:Rd s i (wordSg (kw w) a) j):Rd s i ⟨1,a,kw w,v0,0⟩ j:=by
 unfold wordSg at h
 rw [hk] at h
 exact h
theorem nm_rd {s:List UInt8} {i j a:Nat} {w:List UInt8} (hk:keysL.contains w=false) (h:Rd s i (wordSg w a) j):Rd s i ⟨2,a,w,v0,0⟩ j:=by
 unfold wordSg at h
 rw [hk] at h
 exact h
def p30 (l:List PV):List PV:=l++List.replicate (30 - l.length) (nI 0)
def stNu (s nm col dst:List UInt8) (P:List PV) (y1:Sg) (t1:Nat) (y2:Sg) (t2:Nat) (e w:E7) (z:Sg) (tz:Nat):List PV :=
 [.str s,nI 0, .str nm, .str col, .str dst,nI 0,nI 0,nI 0,nI 0,nI 0]++(P++(sv y1 t1++([nI 0,nI 0]++(sv y2 t2++([nI 0,nI 0]++(e.L++([nI 0,nI 0,nI 0]++(w.L++([nI 0,nI 0,nI 0]++sv z tz)))))))))
theorem stNu_ok {s nm col dst:List UInt8} {P:List PV} {y1:Sg} {t1:Nat} {y2:Sg} {t2:Nat} {e w:E7} {z:Sg} {tz:Nat} (hP:(P.all fun p=>p.clean&&p.pure)=true) (he:e.ok=true) (hw:w.ok=true):NuOk (nuL (stNu s nm col dst P y1 t1 y2 t2 e w z tz)):=by
 refine nuL_okB ?_
 have h1:(e.L.all fun p=>p.clean&&p.pure)=true:=he
 have h2:(w.L.all fun p=>p.clean&&p.pure)=true:=hw
 unfold stNu
 simp only [List.all_append,hP,h1,h2]
 rfl
def whP (w:Option Xp):List Pc:=match w with|none=>[]|some e=>[(true, .w (kw "where")),(true, .x e)]
def wX (w:Option Xp):E7:=match w with|none=>E7.zero|some e=>e.e7
theorem wX_ok (w:Option Xp):(wX w).ok=true:=by
 cases w with
 | none=>rfl
 | some e=>exact e7_ok e
theorem stP_pure {k:Int} {nm col dst:List UInt8} {e w:E7} (he:e.ok=true) (hw:w.ok=true):(stP k tableZ nm col dst .nilslice e w).pure=true:=by
 simp only [E7.ok,E7.L,List.all_cons,List.all_nil,Bool.and_eq_true,Bool.and_true] at he hw
 simp [stP,stmtP,tableZ,E7.L,PV.pure,PV.pureL,he,hw]
theorem where_stops (a:Int):∀ w∈stops,isM ⟨1,a,kw "where", v0,0⟩ (kw w)=false:=by
 intro w hw
 simp only [stops,List.mem_cons,List.not_mem_nil,or_false] at hw
 rcases hw with rfl|rfl|rfl|rfl|rfl|rfl|rfl|rfl|rfl|rfl<;>rfl
section
variable {s:List UInt8} {i j:Nat}
theorem st_drop {nm:List UInt8} (hn:keysL.contains nm=false) (h:Chain s [(false, .w (kw "drop")),(true, .w (kw "table")),(true, .w nm)] i j):StAt s i j (stP 2 tableZ nm [] [] .nilslice E7.zero E7.zero):=by
 obtain ⟨t1,⟨a1,r1⟩,t2,⟨a2,r2⟩,t3,⟨a3,r3⟩,rfl⟩:=h
 have r1:=kw_rd (by decide +kernel) r1
 have r2:=kw_rd (by decide +kernel) r2
 have r3:=nm_rd hn r3
 refine ⟨_,_,r1,show (1:Int)≠0 by decide,fun z tz hz _=>?_⟩
 exact EvS.facts (nu:=nuL (stNu s nm [] [] (p30 [nI a1,nI t1,nI a2,nI t2,nI a3,nI t3]) z tz z tz E7.zero E7.zero z tz)) (args:=[.box 0 0]) (s:=kwS "drop" 10) (s':=gS 80) prog_ok (stNu_ok rfl rfl rfl) (okRS_eq drop_k)
  ⟨fst1 (next_ev ⟨1,a1,kw "drop", v0,0⟩ 0 r2) rfl rfl rfl rfl rfl,fst1 (next_ev ⟨1,a2,kw "table", v0,0⟩ 0 r3) rfl rfl rfl rfl rfl,fst1 (next_ev ⟨2,a3,nm,v0,0⟩ 0 hz) rfl rfl rfl rfl rfl,trivial⟩ rfl rfl rfl
theorem st_link {nm col dst:List UInt8} (hn:keysL.contains nm=false) (hc:keysL.contains col=false) (hd:keysL.contains dst=false)
  (h:Chain s [(false, .w (kw "alter")),(true, .w (kw "table")),(true, .w nm),(true, .w (kw "add")),(true, .w (kw "foreign")),(true, .w (kw "key")),(true, .m 2),(false, .w col),(false, .m 3),(true, .w (kw "references")),(true, .w dst)] i j):StAt s i j (stP 3 tableZ nm col dst .nilslice E7.zero E7.zero):=by
 obtain ⟨t1,⟨a1,r1⟩,t2,⟨a2,r2⟩,t3,⟨a3,r3⟩,t4,⟨a4,r4⟩,t5,⟨a5,r5⟩,t6,⟨a6,r6⟩,t7,⟨a7,r7⟩,t8,⟨a8,r8⟩,t9,⟨a9,r9⟩,t10,⟨a10,r10⟩,t11,⟨a11,r11⟩,rfl⟩:=h
 have r1:=kw_rd (by decide +kernel) r1
 have r2:=kw_rd (by decide +kernel) r2
 have r3:=nm_rd hn r3
 have r4:=kw_rd (by decide +kernel) r4
 have r5:=kw_rd (by decide +kernel) r5
 have r6:=kw_rd (by decide +kernel) r6
 have r8:=nm_rd hc r8
 have r10:=kw_rd (by decide +kernel) r10
 have r11:=nm_rd hd r11
 refine ⟨_,_,r1,show (1:Int)≠0 by decide,fun z tz hz _=>?_⟩
 exact EvS.facts (nu:=nuL (stNu s nm col dst (p30 [nI a1,nI t1,nI a2,nI t2,nI a3,nI t3,nI a4,nI t4,nI a5,nI t5,nI a6,nI t6,nI a7,nI t7,nI a8,nI t8,nI a9,nI t9,nI a10,nI t10,nI a11,nI t11]) z tz z tz E7.zero E7.zero z tz)) (args:=[.box 0 0]) (s:=kwS "alter" 10) (s':=gS 80) prog_ok (stNu_ok rfl rfl rfl) (okRS_eq link_k)
  ⟨fst1 (next_ev ⟨1,a1,kw "alter", v0,0⟩ 0 r2) rfl rfl rfl rfl rfl,fst1 (next_ev ⟨1,a2,kw "table", v0,0⟩ 0 r3) rfl rfl rfl rfl rfl,fst1 (next_ev ⟨2,a3,nm,v0,0⟩ 0 r4) rfl rfl rfl rfl rfl,fst1 (next_ev ⟨1,a4,kw "add", v0,0⟩ 0 r5) rfl rfl rfl rfl rfl,fst1 (next_ev ⟨1,a5,kw "foreign", v0,0⟩ 0 r6) rfl rfl rfl rfl rfl,fst1 (next_ev ⟨1,a6,kw "key", v0,0⟩ 0 r7) rfl rfl rfl rfl rfl,
   fst1 (next_ev (markSg 2 a7) 0 r8) rfl rfl rfl rfl rfl,fst1 (next_ev ⟨2,a8,col,v0,0⟩ 0 r9) rfl rfl rfl rfl rfl,fst1 (next_ev (markSg 3 a9) 0 r10) rfl rfl rfl rfl rfl,fst1 (next_ev ⟨1,a10,kw "references", v0,0⟩ 0 r11) rfl rfl rfl rfl rfl,fst1 (next_ev ⟨2,a11,dst,v0,0⟩ 0 hz) rfl rfl rfl rfl rfl,trivial⟩ rfl rfl rfl
theorem st_del {nm:List UInt8} (hn:keysL.contains nm=false) {w:Option Xp} (h:Chain s ([(false, .w (kw "delete")),(true, .w (kw "from")),(true, .w nm)]++whP w) i j):StAt s i j (stP 6 tableZ nm [] [] .nilslice E7.zero (wX w)):=by
 obtain ⟨t1,⟨a1,r1⟩,t2,⟨a2,r2⟩,t3,⟨a3,r3⟩,hw⟩:=h
 have r1:=kw_rd (by decide +kernel) r1
 have r2:=kw_rd (by decide +kernel) r2
 have r3:=nm_rd hn r3
 refine ⟨_,_,r1,show (1:Int)≠0 by decide,fun z tz hz hk=>?_⟩
 have hp:=stP_pure (k:=6) (nm:=nm) (col:=[]) (dst:=[]) (e:=E7.zero) rfl (wX_ok w)
 cases w with
 | none =>
  obtain rfl:t3=j:=hw
  exact EvS.facts (nu:=nuL (stNu s nm [] [] (p30 [nI a1,nI t1,nI a2,nI t2,nI a3,nI t3]) z tz z tz E7.zero E7.zero z tz)) (args:=[.box 0 0]) (s:=kwS "delete" 10) (s':=gS 80) prog_ok (stNu_ok rfl rfl rfl) (okRS_eq (bl_all del_k false))
   ⟨fst1 (next_ev ⟨1,a1,kw "delete", v0,0⟩ 0 r2) rfl rfl rfl rfl rfl,fst1 (next_ev ⟨1,a2,kw "from", v0,0⟩ 0 r3) rfl rfl rfl rfl rfl,fst1 (next_ev ⟨2,a3,nm,v0,0⟩ 0 hz) rfl rfl rfl rfl rfl,fIs rfl hk.1 rfl,trivial⟩ rfl rfl rfl
 | some e =>
  obtain ⟨t4,⟨a4,r4⟩,t5,⟨y,tu,hy,ha⟩,rfl⟩:=hw
  have r4:=kw_rd (by decide +kernel) r4
  obtain ⟨h1,h2⟩:=ha z tz hz hk.2
  exact EvS.facts (nu:=nuL (stNu s nm [] [] (p30 [nI a1,nI t1,nI a2,nI t2,nI a3,nI t3,nI 0,nI 0,nI 0,nI 0,nI 0,nI 0,nI 0,nI 0,nI 0,nI 0,nI 0,nI 0,nI 0,nI 0,nI a4,nI t4]) z tz y tu E7.zero e.e7 z tz)) (args:=[.box 0 0]) (s:=kwS "delete" 10) (s':=gS 80) prog_ok (stNu_ok rfl rfl (e7_ok e)) (okRS_eq (bl_all del_k true))
   ⟨fst1 (next_ev ⟨1,a1,kw "delete", v0,0⟩ 0 r2) rfl rfl rfl rfl rfl,fst1 (next_ev ⟨1,a2,kw "from", v0,0⟩ 0 r3) rfl rfl rfl rfl rfl,fst1 (next_ev ⟨2,a3,nm,v0,0⟩ 0 r4) rfl rfl rfl rfl rfl,fst1 (next_ev ⟨1,a4,kw "where", v0,0⟩ 0 hy) rfl rfl rfl rfl rfl,fst1 h1 rfl rfl rfl rfl rfl,trivial⟩ rfl rfl (by rw [Bool.and_eq_true];exact ⟨hp,rfl⟩)
theorem st_slc {nm:List UInt8} (hn:keysL.contains nm=false) {w:Option Xp} (h:Chain s ([(false, .w (kw "select")),(true, .m 10),(true, .w (kw "from")),(true, .w nm)]++whP w) i j):StAt s i j (stP 7 tableZ nm [] [] .nilslice E7.zero (wX w)):=by
 obtain ⟨t1,⟨a1,r1⟩,t2,⟨a2,r2⟩,t3,⟨a3,r3⟩,t4,⟨a4,r4⟩,hw⟩:=h
 have r1:=kw_rd (by decide +kernel) r1
 have r3:=kw_rd (by decide +kernel) r3
 have r4:=nm_rd hn r4
 refine ⟨_,_,r1,show (1:Int)≠0 by decide,fun z tz hz hk=>?_⟩
 have hp:=stP_pure (k:=7) (nm:=nm) (col:=[]) (dst:=[]) (e:=E7.zero) rfl (wX_ok w)
 cases w with
 | none =>
  obtain rfl:t4=j:=hw
  exact EvS.facts (nu:=nuL (stNu s nm [] [] (p30 [nI a1,nI t1,nI a2,nI t2,nI a3,nI t3,nI a4,nI t4]) z tz z tz E7.zero E7.zero z tz)) (args:=[.box 0 0]) (s:=kwS "select" 10) (s':=gS 80) prog_ok (stNu_ok rfl rfl rfl) (okRS_eq (bl_all slc_k false))
   ⟨fst1 (next_ev ⟨1,a1,kw "select", v0,0⟩ 0 r2) rfl rfl rfl rfl rfl,fst1 (next_ev (markSg 10 a2) 0 r3) rfl rfl rfl rfl rfl,fst1 (next_ev ⟨1,a3,kw "from", v0,0⟩ 0 r4) rfl rfl rfl rfl rfl,fst1 (next_ev ⟨2,a4,nm,v0,0⟩ 0 hz) rfl rfl rfl rfl rfl,fIs rfl hk.1 rfl,trivial⟩ rfl rfl rfl
 | some e =>
  obtain ⟨t5,⟨a5,r5⟩,t6,⟨y,tu,hy,ha⟩,rfl⟩:=hw
  have r5:=kw_rd (by decide +kernel) r5
  obtain ⟨h1,h2⟩:=ha z tz hz hk.2
  exact EvS.facts (nu:=nuL (stNu s nm [] [] (p30 [nI a1,nI t1,nI a2,nI t2,nI a3,nI t3,nI a4,nI t4,nI 0,nI 0,nI 0,nI 0,nI 0,nI 0,nI 0,nI 0,nI 0,nI 0,nI 0,nI 0,nI a5,nI t5]) z tz y tu E7.zero e.e7 z tz)) (args:=[.box 0 0]) (s:=kwS "select" 10) (s':=gS 80) prog_ok (stNu_ok rfl rfl (e7_ok e)) (okRS_eq (bl_all slc_k true))
   ⟨fst1 (next_ev ⟨1,a1,kw "select", v0,0⟩ 0 r2) rfl rfl rfl rfl rfl,fst1 (next_ev (markSg 10 a2) 0 r3) rfl rfl rfl rfl rfl,fst1 (next_ev ⟨1,a3,kw "from", v0,0⟩ 0 r4) rfl rfl rfl rfl rfl,fst1 (next_ev ⟨2,a4,nm,v0,0⟩ 0 r5) rfl rfl rfl rfl rfl,fst1 (next_ev ⟨1,a5,kw "where", v0,0⟩ 0 hy) rfl rfl rfl rfl rfl,fst1 h1 rfl rfl rfl rfl rfl,trivial⟩ rfl rfl (by rw [Bool.and_eq_true];exact ⟨hp,rfl⟩)
theorem st_cou {nm:List UInt8} (hn:keysL.contains nm=false) {w:Option Xp} (h:Chain s ([(false, .w (kw "select")),(true, .w (kw "count")),(false, .m 2),(false, .m 10),(false, .m 3),(true, .w (kw "from")),(true, .w nm)]++whP w) i j):StAt s i j (stP 8 tableZ nm [] [] .nilslice E7.zero (wX w)):=by
 obtain ⟨t1,⟨a1,r1⟩,t2,⟨a2,r2⟩,t3,⟨a3,r3⟩,t4,⟨a4,r4⟩,t5,⟨a5,r5⟩,t6,⟨a6,r6⟩,t7,⟨a7,r7⟩,hw⟩:=h
 have r1:=kw_rd (by decide +kernel) r1
 have r2:=kw_rd (by decide +kernel) r2
 have r6:=kw_rd (by decide +kernel) r6
 have r7:=nm_rd hn r7
 refine ⟨_,_,r1,show (1:Int)≠0 by decide,fun z tz hz hk=>?_⟩
 have hp:=stP_pure (k:=8) (nm:=nm) (col:=[]) (dst:=[]) (e:=E7.zero) rfl (wX_ok w)
 cases w with
 | none =>
  obtain rfl:t7=j:=hw
  exact EvS.facts (nu:=nuL (stNu s nm [] [] (p30 [nI a1,nI t1,nI a2,nI t2,nI a3,nI t3,nI a4,nI t4,nI a5,nI t5,nI a6,nI t6,nI a7,nI t7]) z tz z tz E7.zero E7.zero z tz)) (args:=[.box 0 0]) (s:=kwS "select" 10) (s':=gS 80) prog_ok (stNu_ok rfl rfl rfl) (okRS_eq (bl_all cou_k false))
   ⟨fst1 (next_ev ⟨1,a1,kw "select", v0,0⟩ 0 r2) rfl rfl rfl rfl rfl,fst1 (next_ev ⟨1,a2,kw "count", v0,0⟩ 0 r3) rfl rfl rfl rfl rfl,fst1 (next_ev (markSg 2 a3) 0 r4) rfl rfl rfl rfl rfl,fst1 (next_ev (markSg 10 a4) 0 r5) rfl rfl rfl rfl rfl,fst1 (next_ev (markSg 3 a5) 0 r6) rfl rfl rfl rfl rfl,fst1 (next_ev ⟨1,a6,kw "from", v0,0⟩ 0 r7) rfl rfl rfl rfl rfl,fst1 (next_ev ⟨2,a7,nm,v0,0⟩ 0 hz) rfl rfl rfl rfl rfl,fIs rfl hk.1 rfl,trivial⟩ rfl rfl rfl
 | some e =>
  obtain ⟨t8,⟨a8,r8⟩,t9,⟨y,tu,hy,ha⟩,rfl⟩:=hw
  have r8:=kw_rd (by decide +kernel) r8
  obtain ⟨h1,h2⟩:=ha z tz hz hk.2
  exact EvS.facts (nu:=nuL (stNu s nm [] [] (p30 [nI a1,nI t1,nI a2,nI t2,nI a3,nI t3,nI a4,nI t4,nI a5,nI t5,nI a6,nI t6,nI a7,nI t7,nI 0,nI 0,nI 0,nI 0,nI 0,nI 0,nI a8,nI t8]) z tz y tu E7.zero e.e7 z tz)) (args:=[.box 0 0]) (s:=kwS "select" 10) (s':=gS 80) prog_ok (stNu_ok rfl rfl (e7_ok e)) (okRS_eq (bl_all cou_k true))
   ⟨fst1 (next_ev ⟨1,a1,kw "select", v0,0⟩ 0 r2) rfl rfl rfl rfl rfl,fst1 (next_ev ⟨1,a2,kw "count", v0,0⟩ 0 r3) rfl rfl rfl rfl rfl,fst1 (next_ev (markSg 2 a3) 0 r4) rfl rfl rfl rfl rfl,fst1 (next_ev (markSg 10 a4) 0 r5) rfl rfl rfl rfl rfl,fst1 (next_ev (markSg 3 a5) 0 r6) rfl rfl rfl rfl rfl,fst1 (next_ev ⟨1,a6,kw "from", v0,0⟩ 0 r7) rfl rfl rfl rfl rfl,fst1 (next_ev ⟨2,a7,nm,v0,0⟩ 0 r8) rfl rfl rfl rfl rfl,fst1 (next_ev ⟨1,a8,kw "where", v0,0⟩ 0 hy) rfl rfl rfl rfl rfl,fst1 h1 rfl rfl rfl rfl rfl,trivial⟩ rfl rfl (by rw [Bool.and_eq_true];exact ⟨hp,rfl⟩)
theorem st_upd {nm col:List UInt8} (hn:keysL.contains nm=false) (hc:keysL.contains col=false) {e:Xp} {w:Option Xp} (h:Chain s ([(false, .w (kw "update")),(true, .w nm),(true, .w (kw "set")),(true, .w col),(true, .m 6),(true, .x e)]++whP w) i j):StAt s i j (stP 5 tableZ nm col [] .nilslice e.e7 (wX w)):=by
 obtain ⟨t1,⟨a1,r1⟩,t2,⟨a2,r2⟩,t3,⟨a3,r3⟩,t4,⟨a4,r4⟩,t5,⟨a5,r5⟩,t6,⟨y1,tu1,hy1,ha1⟩,hw⟩:=h
 have r1:=kw_rd (by decide +kernel) r1
 have r2:=nm_rd hn r2
 have r3:=kw_rd (by decide +kernel) r3
 have r4:=nm_rd hc r4
 refine ⟨_,_,r1,show (1:Int)≠0 by decide,fun z tz hz hk=>?_⟩
 have hp:=stP_pure (k:=5) (nm:=nm) (col:=col) (dst:=[]) (e:=e.e7) (e7_ok e) (wX_ok w)
 cases w with
 | none =>
  obtain rfl:t6=j:=hw
  obtain ⟨h3,_⟩:=ha1 z tz hz hk.2
  exact EvS.facts (nu:=nuL (stNu s nm col [] (p30 [nI a1,nI t1,nI a2,nI t2,nI a3,nI t3,nI a4,nI t4,nI a5,nI t5]) y1 tu1 z tz e.e7 E7.zero z tz)) (args:=[.box 0 0]) (s:=kwS "update" 10) (s':=gS 80) prog_ok (stNu_ok rfl (e7_ok e) rfl) (okRS_eq (bl_all upd_k false))
   ⟨fst1 (next_ev ⟨1,a1,kw "update", v0,0⟩ 0 r2) rfl rfl rfl rfl rfl,fst1 (next_ev ⟨2,a2,nm,v0,0⟩ 0 r3) rfl rfl rfl rfl rfl,fst1 (next_ev ⟨1,a3,kw "set", v0,0⟩ 0 r4) rfl rfl rfl rfl rfl,fst1 (next_ev ⟨2,a4,col,v0,0⟩ 0 r5) rfl rfl rfl rfl rfl,fst1 (next_ev (markSg 6 a5) 0 hy1) rfl rfl rfl rfl rfl,fst1 h3 rfl rfl rfl rfl rfl,fIs rfl hk.1 rfl,trivial⟩ rfl rfl (by rw [Bool.and_eq_true];exact ⟨hp,rfl⟩)
 | some f =>
  obtain ⟨t8,⟨a8,r8⟩,t9,⟨y,tu,hy,ha⟩,rfl⟩:=hw
  have r8:=kw_rd (by decide +kernel) r8
  obtain ⟨h1,h2⟩:=ha z tz hz hk.2
  obtain ⟨h3,_⟩:=ha1 _ _ r8 (where_stops _)
  exact EvS.facts (nu:=nuL (stNu s nm col [] (p30 [nI a1,nI t1,nI a2,nI t2,nI a3,nI t3,nI a4,nI t4,nI a5,nI t5,nI 0,nI 0,nI 0,nI 0,nI 0,nI 0,nI 0,nI 0,nI 0,nI 0,nI a8,nI t8]) y1 tu1 y tu e.e7 f.e7 z tz)) (args:=[.box 0 0]) (s:=kwS "update" 10) (s':=gS 80) prog_ok (stNu_ok rfl (e7_ok e) (e7_ok f)) (okRS_eq (bl_all upd_k true))
   ⟨fst1 (next_ev ⟨1,a1,kw "update", v0,0⟩ 0 r2) rfl rfl rfl rfl rfl,fst1 (next_ev ⟨2,a2,nm,v0,0⟩ 0 r3) rfl rfl rfl rfl rfl,fst1 (next_ev ⟨1,a3,kw "set", v0,0⟩ 0 r4) rfl rfl rfl rfl rfl,fst1 (next_ev ⟨2,a4,col,v0,0⟩ 0 r5) rfl rfl rfl rfl rfl,fst1 (next_ev (markSg 6 a5) 0 hy1) rfl rfl rfl rfl rfl,fst1 h3 rfl rfl rfl rfl rfl,fst1 (next_ev ⟨1,a8,kw "where", v0,0⟩ 0 hy) rfl rfl rfl rfl rfl,fst1 h1 rfl rfl rfl rfl rfl,trivial⟩ rfl rfl (by rw [Bool.and_eq_true];exact ⟨hp,rfl⟩)
end
end Go.Proofs.YtdlkibeljkapeaaGreatDoor.Den
namespace Go.Proofs.YtdlkibeljkapeaaGreatDoor.Den
open Go Go.RowKit
def valsP:Bool→List (V4 × List UInt8)→List Pc
 | _,[]=>[]
 | b,[v]=>[(b, .v v.1 v.2)]
 | b,v::w::vs=>(b, .v v.1 v.2)::(false, .m 4)::valsP true (w::vs)
structure ValsF (s:List UInt8) (vs:List (V4 × List UInt8)) (i j:Nat) (P K A:Nat→Nat):Prop where
 p0:P 0=i
 k1:K (vs.length - 1)=j
 v:∀ m v,vs[m]? = some v→LitAt s (P m) (K m) v.1
 a:∀ m,m+1 < vs.length→Rd s (K m) (markSg 4 (A m)) (P (m+1))
theorem vals_fun {s:List UInt8}:∀ (vs:List (V4 × List UInt8)),vs≠[]→∀ {b:Bool} {i j:Nat},Chain s (valsP b vs) i j→∃ P K A,ValsF s vs i j P K A
 | [],h,_,_,_,_=>absurd rfl h
 | [v],_,b,i,j,⟨k,h,e⟩=>by
  obtain rfl:k=j:=e
  refine ⟨fun _=>i,fun _=>k,fun _=>0,rfl,rfl,fun m w hm=>?_,fun m hm=>by simp at hm⟩
  cases m with
  | zero =>
   simp at hm
   subst hm
   exact h
  | succ m=>simp at hm
 | v::w::vs,_,b,i,j,⟨k,h,l,⟨a,ha⟩,hc⟩=>by
  obtain ⟨P,K,A,q⟩:=vals_fun (w::vs) (by simp) hc
  refine ⟨fun m=>match m with|0=>i|m+1=>P m,fun m=>match m with|0=>k|m+1=>K m,fun m=>match m with|0=>a|m+1=>A m,rfl,q.k1,fun m x hm=>?_,fun m hm=>?_⟩
  ·cases m with
   | zero =>
    simp at hm
    subst hm
    exact h
   | succ m=>exact q.v m x (by simpa using hm)
  ·cases m with
   | zero =>
    show Rd s k (markSg 4 a) (P 0)
    rw [q.p0];exact ha
   | succ m=>exact q.a m (by simp at hm ⊢;omega)
def insNu (s nm:List UInt8) (P:List PV) (z:Sg) (tz:Nat) (Y:Nat→Sg) (T:Nat→Nat) (V:Nat→V4) (A B:Nat→Nat):List PV :=
 [.str s,nI 0, .str nm,nI 0,nI 0,nI 0,nI 0,nI 0,nI 0,nI 0]++(P++(List.replicate 40 (nI 0)++(sv z tz++(List.replicate 12 (nI 0)++(sv (Y 0) (T 0)++([nI 0,nI 0]++(sv (Y 1) (T 1)++([nI 0,nI 0]++(sv (Y 2) (T 2)++([nI 0,nI 0]++(sv (Y 3) (T 3)++([nI 0,nI 0]++(sv (Y 4) (T 4)++([nI 0,nI 0] ++
  (List.replicate 10 (nI 0)++(v4L (V 0)++(v4L (V 1)++(v4L (V 2)++(v4L (V 3)++(v4L (V 4)++(List.replicate 10 (nI 0)++[nI (A 0),nI (B 0),nI (A 1),nI (B 1),nI (A 2),nI (B 2),nI (A 3),nI (B 3)])))))))))))))))))))))
def rowP (vs:List (V4 × List UInt8)):PV:=.slice 4 (vs.map fun v=>Den.vP v.1)
theorem row_pure (vs:List (V4 × List UInt8)):PV.pureL (vs.map fun v=>Den.vP v.1)=true:=by
 induction vs with
 | nil=>rfl
 | cons v vs ih=>simp only [List.map_cons,PV.pureL,ih];rfl
set_option maxRecDepth 20000 in
set_option maxHeartbeats 4000000 in
theorem st_ins {s nm:List UInt8} {i j:Nat} (hn:keysL.contains nm=false) {vs:List (V4 × List UInt8)} (h0:vs≠[]) (h5:vs.length≤5)
  (h:Chain s ([(false, .w (kw "insert")),(true, .w (kw "into")),(true, .w nm),(true, .w (kw "values")),(true, .m 2)]++(valsP false vs++[(false, .m 3)])) i j):StAt s i j (stP 4 tableZ nm [] [] (rowP vs) E7.zero E7.zero):=by
 obtain ⟨t1,⟨a1,r1⟩,t2,⟨a2,r2⟩,t3,⟨a3,r3⟩,t4,⟨a4,r4⟩,t5,⟨a5,r5⟩,hc⟩:=h
 obtain ⟨k,hv,t6,⟨a6,r6⟩,rfl⟩:=Chain.append (ps:=valsP false vs) (qs:=[(false, .m 3)]) hc
 have r1:=kw_rd (by decide +kernel) r1
 have r2:=kw_rd (by decide +kernel) r2
 have r3:=nm_rd hn r3
 have r4:=kw_rd (by decide +kernel) r4
 obtain ⟨P,K,A,q⟩:=vals_fun vs h0 hv
 have hl:1≤vs.length:=by cases vs with|nil=>exact absurd rfl h0|cons a l=>simp
 obtain ⟨n,hn5,hlen⟩:∃ n,n < 5∧vs.length=n+1:=⟨vs.length - 1,by omega,by omega⟩
 refine ⟨_,_,r1,show (1:Int)≠0 by decide,fun z tz hz _=>?_⟩
 have each:∀ m,∃ Q:Sg × Nat,m < n+1→Rd s (P m) Q.1 Q.2∧∀ z tz,Rd s (K m) z tz→Const s Q.1 Q.2 0 (vs.getD m (v0,[])).1 z tz:=fun m=>by
  by_cases hm:m < n+1
  ·have hg:vs[m]? = some (vs.getD m (v0,[])):=by
    rw [List.getD_eq_getElem?_getD,List.getElem?_eq_getElem (by omega)];rfl
   obtain ⟨y,tu,h1,_,h2⟩:=q.v m _ hg
   exact ⟨(y,tu),fun _=>⟨h1,fun z tz hz=>h2 0 z tz hz⟩⟩
  ·exact ⟨(z,tz),fun h=>absurd h hm⟩
 obtain ⟨Q,hQ⟩:=Classical.axiomOfChoice each
 have hk:=okRS_eq (List.all_eq_true.1 ins_k2 n (by rw [List.mem_range];exact hn5))
 have hnu:NuOk (nuL (insNu s nm (p30 [nI a1,nI t1,nI a2,nI t2,nI a3,nI t3,nI a4,nI t4,nI a5,nI t5,nI a6,nI t6]) z tz (fun m=>(Q m).1) (fun m=>(Q m).2) (fun m=>(vs.getD m (v0,[])).1) A (fun m=>P (m+1)))):=nuL_okB rfl
 have hf:FactsOk PG (nuL (insNu s nm (p30 [nI a1,nI t1,nI a2,nI t2,nI a3,nI t3,nI a4,nI t4,nI a5,nI t5,nI a6,nI t6]) z tz (fun m=>(Q m).1) (fun m=>(Q m).2) (fun m=>(vs.getD m (v0,[])).1) A (fun m=>P (m+1)))) (insF2 (n+1)):=by
  unfold insF2
  have hp0:Rd s t5 (Q 0).1 (Q 0).2:=by have:=(hQ 0 (by omega)).1;rw [q.p0] at this;exact this
  refine FactsOk.append ⟨fst1 (next_ev ⟨1,a1,kw "insert", v0,0⟩ 0 r2) rfl rfl rfl rfl rfl,fst1 (next_ev ⟨1,a2,kw "into", v0,0⟩ 0 r3) rfl rfl rfl rfl rfl,fst1 (next_ev ⟨2,a3,nm,v0,0⟩ 0 r4) rfl rfl rfl rfl rfl,fst1 (next_ev ⟨1,a4,kw "values", v0,0⟩ 0 r5) rfl rfl rfl rfl rfl,
   fst1 (next_ev (markSg 2 a5) 0 hp0) rfl rfl rfl rfl rfl,fst1 (next_ev (markSg 3 a6) 0 hz) rfl rfl rfl rfl rfl,trivial⟩ (FactsOk.append (FactsOk.of ?_) (FactsOk.of ?_))
  ·intro f hf
   obtain ⟨m,hm,rfl⟩:=List.mem_map.1 hf
   rw [List.mem_range] at hm
   have hm5:m=0∨m=1∨m=2∨m=3∨m=4:=by omega
   by_cases hl:m=n
   ·have e:cmS (n+1) m=mkS 3 20:=if_pos (by omega)
    have hr:Rd s (K m) (markSg 3 a6) t6:=by
     have:=q.k1
     rw [hlen,show n+1 - 1=m by omega] at this
     rw [this];exact r6
    have hcc:=(hQ m hm).2 _ _ hr
    rw [e]
    rcases hm5 with rfl|rfl|rfl|rfl|rfl<;>exact fst1 hcc rfl rfl rfl rfl rfl
   ·have e:cmS (n+1) m=mkS 4 (190+2*m):=if_neg (by omega)
    have hcc:=(hQ m hm).2 _ _ (q.a m (by omega))
    rw [e]
    have hm4:m=0∨m=1∨m=2∨m=3:=by omega
    rcases hm4 with rfl|rfl|rfl|rfl<;>exact fst1 hcc rfl rfl rfl rfl rfl
  ·intro f hf
   obtain ⟨m,hm,rfl⟩:=List.mem_map.1 hf
   rw [List.mem_range] at hm
   have hcc:=next_ev (markSg 4 (A m)) (tt:=P (m+1)) 0 (hQ (m+1) (by omega)).1
   have hm4:m=0∨m=1∨m=2∨m=3:=by omega
   rcases hm4 with rfl|rfl|rfl|rfl<;>exact fst1 hcc rfl rfl rfl rfl rfl
 have hrow:rowP vs = .slice 4 ((List.range (n+1)).map fun m=>Den.vP (vs.getD m (v0,[])).1):=by
  unfold rowP
  congr 1
  refine List.ext_getElem? fun m=>?_
  rw [List.getElem?_map,List.getElem?_map]
  by_cases hm:m < n+1
  ·rw [List.getElem?_eq_getElem (by omega),List.getElem?_range hm]
   simp [List.getElem?_eq_getElem (show m < vs.length by omega)]
  ·rw [List.getElem?_eq_none (by omega),List.getElem?_eq_none (by simp;omega)]
   rfl
 rw [hrow]
 have hn':n=0∨n=1∨n=2∨n=3∨n=4:=by omega
 clear hrow q hQ
 rcases hn' with rfl|rfl|rfl|rfl|rfl
 all_goals exact EvS.facts (args:=[.box 0 0]) (s:=kwS "insert" 10) (s':=gS 80) prog_ok hnu hk hf rfl rfl rfl
end Go.Proofs.YtdlkibeljkapeaaGreatDoor.Den
namespace Go.Proofs.YtdlkibeljkapeaaGreatDoor.Den
open Go Go.RowKit
def cnm (i:Nat):List UInt8:=[UInt8.ofNat (97+i)]
def colX3 (i:Nat):PV:=.agg [.str (cnm i), .atom (1020+i), .atom (1024+i)]
inductive Tk where
 | kw (a:String)
 | nm (n:Nat)
 | nc (a:List UInt8)
 | mk (m:Nat)
def tkS (k:Int) (w:PV) (j:Nat):List Res:=okP (.atom 1000) (nI k) (.atom (1101+8*j)) w (nI 0) (nI 0) (nI 0) (.str []) (.atom (1107+8*j)) (nI 0)
def Tk.res:Tk→Nat→List Res
 | .kw a,j=>tkS 1 (.str (Den.kw a)) j
 | .nm n,j=>tkS 2 (.atom (1000+n)) j
 | .nc a,j=>tkS 2 (.str a) j
 | .mk m,j=>tkS 5 (.str (mkW m)) j
def gF (j:Nat):List Res:=okP (.atom 1000) (.atom (1000+j)) (.atom (1001+j)) (.atom (1002+j)) (.atom (1003+j)) (.atom (1004+j)) (.atom (1005+j)) (.atom (1006+j)) (.atom (1007+j)) (nI 0)
inductive CI where
 | tk (t:Tk)
 | col (i:Nat)
 | ex
 | ow (T:List PV) (r:Nat)
def CI.res:CI→Nat→List Res
 | .tk t,j=>t.res j
 | .col i,j=>Tk.res (.nc (cnm i)) j
 | .ex,j=>gF (100+8*j)
 | .ow _ _,j=>Tk.res (.mk 2) j
def CI.fact (c:CI) (j:Nat) (st:List Res):Fact:=match c with
 | .tk t=>nextT (t.res j) st
 | .col i=>.st f_sql_parser_column [.box 0 0] (Tk.res (.nc (cnm i)) j) (colX3 i) st
 | .ex=>anyT (gF (100+8*j)) 60 st
 | .ow T r=>.st f_sql_parser_ownBracketed [.box 0 0, .agg T] (Tk.res (.mk 2) j) (.atom (1000+r)) st
def ciF:List CI→Nat→List Fact
 | [],_=>[]
 | [c],j=>[c.fact j (gF 80)]
 | c::d::r,j=>c.fact j (d.res (j+1))::ciF (d::r) (j+1)
def colsX (k:Nat):PV:=.slice 3 ((List.range k).map colX3)
def uqX (m:Nat):PV:=match m with|0=>.nilslice|_=>.slice 1 ((List.range m).map fun i=>.atom (1010+i))
def lkX (m:Nat):PV:=match m with|0=>.nilslice|_=>.slice 2 ((List.range m).map fun i=>.agg [.atom (1012+i), .atom (1005+i)])
def ckX (ck:Bool):List PV:=match ck with|true=>eaL 60|false=>E7.zero.L
def tabX (k:Nat) (key uq:PV) (ck:List PV) (lk:PV):List PV:=[.atom 1002,colsX k,key,uq]++(ck++[lk])
abbrev ckw (a:String):CI:=.tk (.kw a)
abbrev cmk (m:Nat):CI:=.tk (.mk m)
def colI:Nat→Nat→List CI
 | 0,_=>[]
 | n+1,i=>.col i::cmk 4::colI n (i+1)
def uqI (k:Nat):Nat→Nat→List CI
 | 0,_=>[]
 | n+1,m=>cmk 4::ckw "unique" :: .ow (tabX k (.atom 1003) (uqX m) E7.zero.L .nilslice) (10+m)::uqI k n (m+1)
def ckI:Bool→List CI
 | true=>[cmk 4,ckw "check", cmk 2, .ex,cmk 3]
 | false=>[]
def lkI (k u:Nat) (ck:Bool):Nat→Nat→List CI
 | 0,_=>[]
 | n+1,m=>cmk 4::ckw "foreign" :: ckw "key" :: .ow (tabX k (.atom 1003) (uqX u) (ckX ck) (lkX m)) (12+m)::ckw "references" :: .tk (.nm (5+m))::lkI k u ck n (m+1)
def creI (k u:Nat) (ck:Bool) (l:Nat):List CI :=
 [ckw "create", ckw "table", .tk (.nm 2),cmk 2]++(colI k 0++([ckw "primary", ckw "key", .ow (tabX k (nI 0) .nilslice E7.zero.L .nilslice) 3]++(uqI k u 0++(ckI ck++(lkI k u ck l 0++[cmk 3])))))
def creR (k u:Nat) (ck:Bool) (l:Nat):PV:=stmtP (nI 1) (tabX k (.atom 1003) (uqX u) (ckX ck) (lkX l)) (.str []) (.str []) (.str []) .nilslice E7.zero.L E7.zero.L
noncomputable abbrev creK (k u:Nat) (ck:Bool) (l:Nat):Bool:=okRS (creR k u ck l) (gF 80) (callF PG (fOrc noOwn (ciF (creI k u ck l) 0)) 30 f_sql_parser_stmt [.box 0 0] (Tk.res (.kw "create") 0))
theorem cre_k1:((List.range 3).all fun u=>bl fun ck=>(List.range 3).all fun l=>creK 1 u ck l)=true:=by kernel_rfl
end Go.Proofs.YtdlkibeljkapeaaGreatDoor.Den
namespace Go.Proofs.YtdlkibeljkapeaaGreatDoor.Den
open Go Go.RowKit
theorem cre_k20:(bl fun ck=>(List.range 3).all fun l=>creK 2 0 ck l)=true:=by kernel_rfl
theorem cre_k21:(bl fun ck=>(List.range 3).all fun l=>creK 2 1 ck l)=true:=by kernel_rfl
theorem cre_k22:(bl fun ck=>(List.range 3).all fun l=>creK 2 2 ck l)=true:=by kernel_rfl
end Go.Proofs.YtdlkibeljkapeaaGreatDoor.Den
namespace Go.Proofs.YtdlkibeljkapeaaGreatDoor.Den
open Go Go.RowKit
theorem cre_k30:(bl fun ck=>(List.range 3).all fun l=>creK 3 0 ck l)=true:=by kernel_rfl
theorem cre_k31:(bl fun ck=>(List.range 3).all fun l=>creK 3 1 ck l)=true:=by kernel_rfl
theorem cre_k32:(bl fun ck=>(List.range 3).all fun l=>creK 3 2 ck l)=true:=by kernel_rfl
end Go.Proofs.YtdlkibeljkapeaaGreatDoor.Den
namespace Go.Proofs.YtdlkibeljkapeaaGreatDoor.Den
open Go Go.RowKit
theorem cre_k40:(bl fun ck=>(List.range 3).all fun l=>creK 4 0 ck l)=true:=by kernel_rfl
theorem cre_k41:(bl fun ck=>(List.range 3).all fun l=>creK 4 1 ck l)=true:=by kernel_rfl
theorem cre_k42:(bl fun ck=>(List.range 3).all fun l=>creK 4 2 ck l)=true:=by kernel_rfl
end Go.Proofs.YtdlkibeljkapeaaGreatDoor.Den
