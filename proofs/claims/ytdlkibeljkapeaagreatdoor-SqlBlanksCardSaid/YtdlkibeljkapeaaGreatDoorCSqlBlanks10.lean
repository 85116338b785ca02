-- Written by drive.py and pack.py (programs of this proof's own) through the kit's printer; not trusted: Lean checks it.
import Derived.Test.YtdlkibeljkapeaaGreatDoorCSqlBlanks9
import Derived.Lib.SmallJoins
import Derived.Test.YtdlkibeljkapeaaGreatDoorCSqlBlanks3
namespace Go.Proofs.YtdlkibeljkapeaaGreatDoor.Den
open Go Go.RowKit
def opsL:List (Int × String):=[(6, "*"),(7, "+"),(8, "-"),(9, "="),(10, "<>"),(11, "<"),(12, "<="),(13, "and"),(14, "or")]
def opF (_k:Int) (m:String):List Fact :=
 [isT (okD 1 9) "not" false,isT (okD 40 9) "not" false, .st f_sql_parser_one [.box 0 0] (okD 1 9) (eA 30) (okD 20 9),nextT (okD 20 9) (okD 40 9), .st f_sql_parser_one [.box 0 0] (okD 40 9) (eA 60) (okD 50 9)] ++
 (stops.map fun w=>isT (okD 20 9) w (w==m))++(stops.map fun w=>isT (okD 50 9) w false)
theorem op_k:(opsL.all fun q=>okRS (exA (nI q.1) (.str []) (nI 0) (nI 0) (nI 0) (.str []) (.slice 7 [eA 30,eA 60])) (okD 50 9) (callF PG (fOrc noOwn (opF q.1 q.2)) 20 f_sql_parser_any [.box 0 0] (okD 1 9)))=true:=by kernel_rfl
def isnF:List Fact:=[isT (okD 1 9) "not" false, .st f_sql_parser_one [.box 0 0] (okD 1 9) (eA 30) (okD 20 9)]++(["*", "+", "-", "=", "<>", "<", "<="].map fun m=>isT (okD 20 9) m false) ++
 [isT (okD 20 9) "is" true,nextT (okD 20 9) (okD 40 9),isT (okD 40 9) "null" true,nextT (okD 40 9) (okD 50 9),isT (okD 50 9) "and" false,isT (okD 50 9) "or" false]
theorem isn_k:okRS (exA (nI 5) (.str []) (nI 0) (nI 0) (nI 0) (.str []) (.slice 7 [eA 30])) (okD 50 9) (callF PG (fOrc noOwn isnF) 20 f_sql_parser_any [.box 0 0] (okD 1 9))=true:=by kernel_rfl
theorem nt_k:okRS (eA 30) (okD 20 9) (callF PG (fOrc noOwn (isT (okD 1 9) "not" false::.st f_sql_parser_one [.box 0 0] (okD 1 9) (eA 30) (okD 20 9)::stops.map fun m=>isT (okD 20 9) m false)) 20 f_sql_parser_not [.box 0 0] (okD 1 9))=true:=by kernel_rfl
theorem no_k:okRS (exA (nI 3) (.str []) (nI 0) (nI 0) (nI 0) (.str []) (.slice 7 [eA 30])) (okD 20 9) (callF PG (fOrc noOwn ([isT (okD 1 9) "not" true, .st f_sql_parser_not [.box 0 0] (okD 10 18) (eA 30) (okD 20 18),isT (okD 20 9) "and" false,isT (okD 20 9) "or" false]++upF)) 20 f_sql_parser_any [.box 0 0] (okD 1 9))=true:=by kernel_rfl
def E7.bin (k:Int) (a b:E7):E7:=⟨nI k, .str [],nI 0,nI 0,nI 0, .str [], .slice 7 [a.pv,b.pv]⟩
theorem E7.bin_ok {k:Int} {a b:E7} (ha:a.ok=true) (hb:b.ok=true):(E7.bin k a b).ok=true:=by
 have h1:=E7.pure ha
 have h2:=E7.pure hb
 simp only [E7.bin,E7.ok,E7.L,List.all_cons,List.all_nil,PV.clean,PV.pure,PV.pureL,h1,h2,Bool.and_self]
def opNu (s:List UInt8) (x:Sg) (tt dp:Nat) (z:Sg) (tz:Nat) (r:E7) (y:Sg) (ty:Nat) (f:Sg) (tf:Nat) (r2:E7):List PV:=onNu s x tt dp x tt (sv z tz) r y ty++([nI 0,nI 0]++(sv f tf++[nI 0,nI 0])++r2.L)
theorem opNu_ok {s:List UInt8} {x:Sg} {tt dp:Nat} {z:Sg} {tz:Nat} {r:E7} {y:Sg} {ty:Nat} {f:Sg} {tf:Nat} {r2:E7} (hr:r.ok=true) (hr2:r2.ok=true):NuOk (nuL (opNu s x tt dp z tz r y ty f tf r2)):=by
 refine nuL_okB ?_
 unfold opNu
 rw [List.all_append,List.all_append]
 have h1:((onNu s x tt dp x tt (sv z tz) r y ty).all fun p=>p.clean&&p.pure)=true:=all3 rfl hr rfl
 rw [h1,show (r2.L.all fun p=>p.clean&&p.pure)=true from hr2]
 rfl
section
variable {s:List UInt8} {x z y f:Sg} {tt tz ty tf dp:Nat} {r r2:E7}
theorem any_op {q:Int × String} (hq:q∈opsL) (hn:isM x (kw "not")=false) (h1:One s x tt dp r z tz) (hz:∀ w∈stops,isM z (kw w)=(w==q.2)) (hy:Rd s tz y ty) (hny:isM y (kw "not")=false) (h2:One s y ty dp r2 f tf) (hf:∀ w∈stops,isM f (kw w)=false):Any s x tt dp (E7.bin q.1 r r2) f tf:=by
 obtain ⟨h1,hr⟩:=h1
 obtain ⟨h2,hr2⟩:=h2
 refine ⟨?_,E7.bin_ok hr hr2⟩
 have hpu:=E7.pure (E7.bin_ok (k:=q.1) hr hr2)
 refine EvS.facts (nu:=nuL (opNu s x tt dp z tz r y ty f tf r2)) (args:=[.box 0 0]) (s:=okD 1 9) (s':=okD 50 9) (r:=exA (nI q.1) (.str []) (nI 0) (nI 0) (nI 0) (.str []) (.slice 7 [eA 30,eA 60])) prog_ok (opNu_ok hr hr2) (okRS_eq (List.all_eq_true.1 op_k q hq)) ?_ rfl rfl (by rw [Bool.and_eq_true];exact ⟨hpu,rfl⟩)
 unfold opF
 rw [List.append_assoc]
 refine FactsOk.append ⟨fIs rfl hn rfl,fIs rfl hny rfl,fst1 h1 rfl rfl rfl rfl rfl,fst1 (next_ev z dp hy) rfl rfl rfl rfl rfl,fst1 h2 rfl rfl rfl rfl rfl,trivial⟩ (FactsOk.append (FactsOk.of fun g hg=>?_) (FactsOk.of fun g hg=>?_))
 ·obtain ⟨m,hm,rfl⟩:=List.mem_map.1 hg
  exact fIs rfl (hz m hm) rfl
 ·obtain ⟨m,hm,rfl⟩:=List.mem_map.1 hg
  exact fIs rfl (hf m hm) rfl
end
end Go.Proofs.YtdlkibeljkapeaaGreatDoor.Den
namespace Go.Proofs.YtdlkibeljkapeaaGreatDoor.Den
open Go Go.RowKit
section
variable {s:List UInt8} {x z y f:Sg} {tt tu tz ty tf dp:Nat} {r:E7}
theorem any_isn (hn:isM x (kw "not")=false) (h1:One s x tt dp r z tz) (hz:∀ m∈["*", "+", "-", "=", "<>", "<", "<="],isM z (kw m)=false) (hi:isM z (kw "is")=true) (hy:Rd s tz y ty) (hy2:isM y (kw "null")=true) (hf:Rd s ty f tf) (e1:isM f (kw "and")=false) (e2:isM f (kw "or")=false):Any s x tt dp (E7.un 5 r) f tf:=by
 obtain ⟨h1,hr⟩:=h1
 refine ⟨?_,E7.un_ok hr⟩
 have hpu:=E7.pure (E7.un_ok (k:=5) hr)
 refine EvS.facts (nu:=nuL (opNu s x tt dp z tz r y ty f tf E7.zero)) (args:=[.box 0 0]) (s:=okD 1 9) (s':=okD 50 9) (r:=exA (nI 5) (.str []) (nI 0) (nI 0) (nI 0) (.str []) (.slice 7 [eA 30])) prog_ok (opNu_ok hr rfl) (okRS_eq isn_k) ?_ rfl rfl (by rw [Bool.and_eq_true];exact ⟨hpu,rfl⟩)
 unfold isnF
 rw [List.append_assoc]
 refine FactsOk.append ⟨fIs rfl hn rfl,fst1 h1 rfl rfl rfl rfl rfl,trivial⟩ (FactsOk.append (FactsOk.of fun g hg=>?_) ⟨fIs rfl hi rfl,fst1 (next_ev z dp hy) rfl rfl rfl rfl rfl,fIs rfl hy2 rfl,fst1 (next_ev y dp hf) rfl rfl rfl rfl rfl,fIs rfl e1 rfl,fIs rfl e2 rfl,trivial⟩)
 obtain ⟨m,hm,rfl⟩:=List.mem_map.1 hg
 exact fIs rfl (hz m hm) rfl
def Not (s:List UInt8) (x:Sg) (tt dp:Nat) (r:E7) (z:Sg) (tz:Nat):Prop:=EvS PG f_sql_parser_not [.box 0 0] (okL s x tt dp) r.pv (okL s z tz dp)∧r.ok=true
theorem not_one (hn:isM x (kw "not")=false) (h:One s x tt dp r z tz) (hz:∀ m∈stops,isM z (kw m)=false):Not s x tt dp r z tz:=by
 obtain ⟨h,hr⟩:=h
 refine ⟨?_,hr⟩
 have hpu:=E7.pure hr
 have hnu:NuOk (nuL (onNu s x tt dp x tt (sv z tz) r x tt)):=onNu_ok rfl hr
 refine EvS.facts (nu:=nuL (onNu s x tt dp x tt (sv z tz) r x tt)) (args:=[.box 0 0]) (s:=okD 1 9) (s':=okD 20 9) prog_ok hnu (okRS_eq nt_k) ⟨fIs rfl hn rfl,fst1 h rfl rfl rfl rfl rfl,FactsOk.of fun f hf=>?_⟩ rfl rfl (by rw [Bool.and_eq_true];exact ⟨hpu,rfl⟩)
 obtain ⟨m,hm,rfl⟩:=List.mem_map.1 hf
 exact fIs rfl (hz m hm) rfl
theorem any_not (hn:isM x (kw "not")=true) (hd:dp < 12) (hy:Rd s tt y tu) (h:Not s y tu (dp+1) r z tz) (e1:isM z (kw "and")=false) (e2:isM z (kw "or")=false):Any s x tt dp (E7.un 3 r) z tz:=by
 obtain ⟨h,hr⟩:=h
 refine ⟨?_,E7.un_ok hr⟩
 have hpu:=E7.pure (E7.un_ok (k:=3) hr)
 have hnu:NuOk (nuL (onNu s x tt dp y tu (sv z tz) r x tt)):=onNu_ok rfl hr
 exact EvS.facts (nu:=nuL (onNu s x tt dp y tu (sv z tz) r x tt)) (args:=[.box 0 0]) (s:=okD 1 9) (s':=okD 20 9) prog_ok hnu (okRS_eq no_k)
  (FactsOk.append ⟨fIs rfl hn rfl,fst1 h rfl rfl rfl rfl rfl,fIs rfl e1 rfl,fIs rfl e2 rfl,trivial⟩ (up_ok rfl rfl hd rfl rfl hy)) rfl rfl (by rw [Bool.and_eq_true];exact ⟨hpu,rfl⟩)
theorem ol_k:okRS (litE 20) (okD 10 9) (callF PG (fOrc noOwn [.st f_sql_parser_constant [.box 0 0] (okD 1 9) (litP 20) (okD 10 9)]) 20 f_sql_parser_one [.box 0 0] (okD 1 9))=true:=by kernel_rfl
theorem one_lit {v:V4} (h:Const s x tt dp v z tz):One s x tt dp (E7.lit v) z tz:=by
 refine ⟨?_,by rfl⟩
 exact EvS.facts (nu:=nuL (coNu s x tt dp z tz v z tz)) (args:=[.box 0 0]) (s:=okD 1 9) (s':=okD 10 9) (r:=litE 20) prog_ok (nuL_okB rfl) (okRS_eq ol_k) ⟨fst1 h rfl rfl rfl rfl rfl,trivial⟩ rfl rfl rfl
end
end Go.Proofs.YtdlkibeljkapeaaGreatDoor.Den
namespace Go.Proofs.YtdlkibeljkapeaaGreatDoor.Den
open Go Go.RowKit
inductive Xp where
 | lit (v:V4) (t:List UInt8)
 | col (w:List UInt8)
 | neg (a:Xp)
 | not (a:Xp)
 | isn (a:Xp)
 | op (i:Nat) (a b:Xp)
def opW (i:Nat):List UInt8:=kw (opsL.getD i (0, "")).2
def Xp.leaf:Xp→Bool
 | .lit _ _ | .col _=>true
 | _=>false
def brk (b:Bool) (t:List UInt8):List UInt8:=match b with|true=>t|false=>[40]++t++[41]
def Xp.txt:Xp→List UInt8
 | .lit _ t=>t
 | .col w=>w
 | .neg a=>[45,40]++a.txt++[41]
 | .not a=>[110,111,116,32]++brk a.leaf a.txt
 | .isn a=>brk a.leaf a.txt++isnB
 | .op i a b=>brk a.leaf a.txt++[32]++opW i++[32]++brk b.leaf b.txt
def Xp.inn (a:Xp):List UInt8:=brk a.leaf a.txt
def Xp.e7:Xp→E7
 | .lit v _=>E7.lit v
 | .col w=>E7.col w
 | .neg a=>E7.un 4 a.e7
 | .not a=>E7.un 3 a.e7
 | .isn a=>E7.un 5 a.e7
 | .op i a b=>E7.bin (opsL.getD i (0, "")).1 a.e7 b.e7
def brd (b:Bool) (n:Nat):Nat:=match b with|true=>0|false=>n+1
def Xp.dpt:Xp→Nat
 | .lit _ _ | .col _=>0
 | .neg a=>a.dpt+2
 | .not a=>brd a.leaf a.dpt+1
 | .isn a=>brd a.leaf a.dpt
 | .op _ a b=>max (brd a.leaf a.dpt) (brd b.leaf b.dpt)
def Gap (g:List UInt8):Prop:=∃ r,g=32::r∧r.all isBlank=true
theorem Gap.one:Gap [32]:=⟨[],rfl,rfl⟩
def brkP (b:Bool) (P:List UInt8→Prop) (x:List UInt8):Prop:=match b with|true=>P x|false=>∃ u,P u∧x=[40]++u++[41]
def Xp.wr:Xp→List UInt8→Prop
 | .lit _ t,x=>x=t
 | .col w,x=>x=w
 | .neg a,x=>∃ u,a.wr u∧x=[45,40]++u++[41]
 | .not a,x=>∃ g u,Gap g∧brkP a.leaf a.wr u∧x=[110,111,116]++g++u
 | .isn a,x=>∃ u g1 g2,Gap g1∧Gap g2∧brkP a.leaf a.wr u∧x=u++g1++[105,115]++g2++[110,117,108,108]
 | .op i a b,x=>∃ u g1 g2 v,Gap g1∧Gap g2∧brkP a.leaf a.wr u∧brkP b.leaf b.wr v∧x=u++g1++opW i++g2++v
end Go.Proofs.YtdlkibeljkapeaaGreatDoor.Den
namespace Go.Proofs.YtdlkibeljkapeaaGreatDoor.Den
open Go Go.RowKit
def Xp.wf:Xp→Prop
 | .lit v t=>LitOk v t∧nobl t
 | .col w=>∃ c r,w=c::r∧isSmall c=true∧r.all isInner=true∧r.length≤11∧keysL.contains w=false
 | .neg a | .not a | .isn a=>a.wf
 | .op i a b=>i < 9∧a.wf∧b.wf
def OneAt (s:List UInt8) (i j dp:Nat) (r:E7):Prop:=∃ y tu,Rd s i y tu∧isM y (kw "not")=false∧∀ z tz,Rd s j z tz→One s y tu dp r z tz
def AnyAt (s:List UInt8) (i j dp:Nat) (r:E7):Prop:=∃ y tu,Rd s i y tu∧∀ z tz,Rd s j z tz→(∀ w∈stops,isM z (kw w)=false)→Any s y tu dp r z tz
section
variable {s:List UInt8} (hs:s.length≤4000)
include hs
theorem at_lit {v:V4} {t:List UInt8} (h:LitOk v t) {i dp:Nat} {g rest:List UInt8} (hi:i≤s.length) (hg:g.all isBlank=true) (hr:endOk rest=true) (hd:s.drop i=g++(t++rest)):OneAt s i (i+g.length+t.length) dp (E7.lit v):=by
 obtain ⟨y,tu,hy,hn,hc⟩:=h.rd hs hi hg hr hd
 exact ⟨y,tu,hy,hn,fun z tz hz=>one_lit (hc dp z tz hz)⟩
theorem at_col {c:UInt8} {r:List UInt8} (hc:isSmall c=true) (hr':r.all isInner=true) (hl:r.length≤11) (hk:keysL.contains (c::r)=false) {i dp:Nat} {g rest:List UInt8} (hi:i≤s.length) (hg:g.all isBlank=true) (hr:endOk rest=true) (hd:s.drop i=g++((c::r)++rest)) :
  OneAt s i (i+g.length+(c::r).length) dp (E7.col (c::r)):=by
 obtain ⟨h1,_,_,h4⟩:=endOk_facts hr
 have hrd:=rd_word (s:=s) (by omega) hi hd hg hc hr' h1 (fun _ _=>h4) hl
 have e:wordSg (c::r) (i+g.length)=⟨2,(i+g.length:Nat),c::r,v0,0⟩:=by
  unfold wordSg
  rw [hk];rfl
 rw [e] at hrd
 have hm:∀ m,isM ⟨2,(i+g.length:Nat),c::r,v0,0⟩ m=false:=fun m=>rfl
 exact ⟨_,_,hrd,hm _,fun z tz hz=>one_name ⟨show (2:Int)≠4 by decide,show (2:Int)≠3 by decide,hm _,hm _,hm _,fun h=>by cases h⟩ (hm _) (hm _) rfl hz⟩
theorem at_par {r:E7} {i j dp:Nat} {g:List UInt8} {rest:List UInt8} (hi:i≤s.length) (hg:g.all isBlank=true) (hd:s.drop i=g++(mkW 2++rest)) (hdp:dp < 12) (hj:j≤s.length) {rest2:List UInt8} (hd2:s.drop j=mkW 3++rest2) (h:AnyAt s (i+g.length+1) j (dp+1) r):OneAt s i (j+1) dp r:=by
 have r0:=rd_mark' (s:=s) (by omega) hi 2 (by decide) (by decide) hd hg
 obtain ⟨y,tu,hy,ha⟩:=h
 have r1:=rd_mark' (s:=s) (g:=[]) (by omega) hj 3 (by decide) (by decide) (by rw [List.nil_append];exact hd2) rfl
 refine ⟨_,_,r0,rfl,fun z tz hz=>one_par ⟨show (5:Int)≠4 by decide,show (5:Int)≠3 by decide,rfl,rfl,rfl,fun h=>by cases h⟩ rfl rfl hdp hy (ha _ _ r1 (fun w hw=>?_)) rfl hz⟩
 simp only [stops,List.mem_cons,List.not_mem_nil,or_false] at hw
 rcases hw with rfl|rfl|rfl|rfl|rfl|rfl|rfl|rfl|rfl|rfl<;>rfl
end
end Go.Proofs.YtdlkibeljkapeaaGreatDoor.Den
namespace Go.Proofs.YtdlkibeljkapeaaGreatDoor.Den
open Go Go.RowKit
theorem and_w (a:Nat):wordSg (97::[110,100]) a=⟨1,a,kw "and", v0,0⟩:=by
 have:keysL.contains (97::[110,100])=true:=by kernel_rfl
 unfold wordSg
 rw [this];rfl
theorem or_w (a:Nat):wordSg (111::[114]) a=⟨1,a,kw "or", v0,0⟩:=by
 have:keysL.contains (111::[114])=true:=by kernel_rfl
 unfold wordSg
 rw [this];rfl
section
variable {s:List UInt8} (hs:s.length≤4000)
include hs
theorem op_sign {j i:Nat} (hi:i < 9) {g rest:List UInt8} (hg:g.all isBlank=true) (hj:j≤s.length) (hd:s.drop j=g++(opW i++(32::rest))):∃ z,Rd s j z (j+g.length+(opW i).length)∧∀ w∈stops,isM z (kw w)=(w==(opsL.getD i (0, "")).2):=by
 have hmk:∀ (k a:Nat) (m:String),(stops.all fun w=>(mkW k==kw w)==(w==m))=true→∀ w∈stops,isM (markSg k a) (kw w)=(w==m):=fun k a m h w hw=>by
  have:=List.all_eq_true.1 h w hw
  rw [beq_iff_eq] at this
  exact this
 match i,hi,hd with
 | 0,_,hd=>exact ⟨_,rd_mark' (s:=s) (by omega) hj 10 (by decide) (by decide) hd hg,hmk _ _ _ (by decide)⟩
 | 1,_,hd=>exact ⟨_,rd_mark' (s:=s) (by omega) hj 8 (by decide) (by decide) hd hg,hmk _ _ _ (by decide)⟩
 | 2,_,hd=>exact ⟨_,rd_mark' (s:=s) (by omega) hj 9 (by decide) (by decide) hd hg,hmk _ _ _ (by decide)⟩
 | 3,_,hd=>exact ⟨_,rd_mark' (s:=s) (by omega) hj 6 (by decide) (by decide) hd hg,hmk _ _ _ (by decide)⟩
 | 4,_,hd=>exact ⟨_,rd_mark' (s:=s) (by omega) hj 0 (by decide) (by decide) hd hg,hmk _ _ _ (by decide)⟩
 | 5,_,hd =>
  refine ⟨_,rd_mark (s:=s) (by omega) hj 7 (by decide) hd hg (fun j hj=>?_),hmk _ _ _ (by decide)⟩
  match j,hj with
  | 0,_|1,_|2,_|3,_|4,_|5,_|6,_|7,_=>rfl
 | 6,_,hd=>exact ⟨_,rd_mark' (s:=s) (by omega) hj 1 (by decide) (by decide) hd hg,hmk _ _ _ (by decide)⟩
 | 7,_,hd =>
  have h:=rd_word (s:=s) (by omega) hj (c:=97) (w:=[110,100]) hd hg rfl rfl rfl (fun h=>absurd h (by decide)) (by decide)
  rw [and_w] at h
  exact ⟨_,h,fun w hw=>by
   simp only [stops,List.mem_cons,List.not_mem_nil,or_false] at hw
   rcases hw with rfl|rfl|rfl|rfl|rfl|rfl|rfl|rfl|rfl|rfl<;>rfl⟩
 | 8,_,hd =>
  have h:=rd_word (s:=s) (by omega) hj (c:=111) (w:=[114]) hd hg rfl rfl rfl (fun h=>absurd h (by decide)) (by decide)
  rw [or_w] at h
  exact ⟨_,h,fun w hw=>by
   simp only [stops,List.mem_cons,List.not_mem_nil,or_false] at hw
   rcases hw with rfl|rfl|rfl|rfl|rfl|rfl|rfl|rfl|rfl|rfl<;>rfl⟩
end
end Go.Proofs.YtdlkibeljkapeaaGreatDoor.Den
namespace Go.Proofs.YtdlkibeljkapeaaGreatDoor.Den
open Go Go.RowKit
theorem not_w (a:Nat):wordSg (110::[111,116]) a=⟨1,a,kw "not", v0,0⟩:=by
 have:keysL.contains (110::[111,116])=true:=by kernel_rfl
 unfold wordSg
 rw [this];rfl
section
variable {s:List UInt8} (hs:s.length≤4000)
include hs
theorem one_of_any (e:Xp) (hw:e.wf) (ih:∀ {t:List UInt8},e.wr t→∀ {i dp:Nat} {g rest:List UInt8},i≤s.length→g.all isBlank=true→endOk rest=true→s.drop i=g++(t++rest)→dp+e.dpt≤12→AnyAt s i (i+g.length+t.length) dp e.e7)
  {t:List UInt8} (ht:brkP e.leaf e.wr t) {i dp:Nat} {g rest:List UInt8} (hi:i≤s.length) (hg:g.all isBlank=true) (hr:endOk rest=true) (hd:s.drop i=g++(t++rest)) (hdp:dp+brd e.leaf e.dpt≤12):OneAt s i (i+g.length+t.length) dp e.e7:=by
 have non:e.leaf=false→OneAt s i (i+g.length+t.length) dp e.e7:=fun hl=>by
  rw [hl] at ht hdp
  obtain ⟨u,hu,rfl⟩:=ht
  have hd0:s.drop i=g++(mkW 2++(u++(41::rest))):=by
   rw [hd]
   show g++([40]++u++[41]++rest)=g++([40]++(u++(41::rest)))
   simp
  have hd1:s.drop (i+g.length+1)=[]++(u++(41::rest)):=by
   have:=drop_more (g:=mkW 2) (drop_more hd0)
   rw [List.nil_append];exact this
  have hdp':dp+(e.dpt+1)≤12:=hdp
  have hlen:i+g.length+1+(u.length+(1+rest.length))=s.length∨s.length < i+g.length+1:=by
   have:=congrArg List.length hd1
   simp only [List.length_drop,List.length_append,List.length_nil,List.length_cons] at this
   omega
  have hil:=(drop_le (show s.drop (i+g.length)=40::(u++(41::rest)) from drop_more hd0)).1
  have ha:=ih hu (i:=i+g.length+1) (dp:=dp+1) (g:=[]) (rest:=41::rest) (by omega) rfl rfl hd1 (by omega)
  have hd2:s.drop (i+g.length+1+([]:List UInt8).length+u.length)=mkW 3++rest:=drop_more (g:=u) (drop_more hd1)
  have h:=at_par hs hi hg hd0 (by omega) (by simp only [List.length_nil];omega) hd2 ha
  have el:i+g.length+([40]++u++[41]).length=i+g.length+1+([]:List UInt8).length+u.length+1:=by
   simp;omega
  rw [el]
  exact h
 match e,hw,ht,non with
 | .lit v t',hw,ht,_ =>
  obtain rfl:t=t':=ht
  exact at_lit hs hw.1 hi hg hr hd
 | .col w,hw,ht,_ =>
  obtain rfl:t=w:=ht
  obtain ⟨c,r,rfl,h1,h2,h3,h4⟩:=hw
  exact at_col hs h1 h2 h3 h4 hi hg hr hd
 | .neg a,_,_,non=>exact non rfl
 | .not a,_,_,non=>exact non rfl
 | .isn a,_,_,non=>exact non rfl
 | .op k a b,_,_,non=>exact non rfl
end
end Go.Proofs.YtdlkibeljkapeaaGreatDoor.Den
namespace Go.Proofs.YtdlkibeljkapeaaGreatDoor.Den
open Go Go.RowKit
section
variable {s:List UInt8} (hs:s.length≤4000)
include hs
omit hs in
theorem any_of_one {i j dp:Nat} {r:E7} (h:OneAt s i j dp r):AnyAt s i j dp r:=by
 obtain ⟨y,tu,hy,hn,h⟩:=h
 exact ⟨y,tu,hy,fun z tz hz hst=>any_one hn (h z tz hz) hst⟩
theorem xp_any:∀ (e:Xp),e.wf→∀ {t:List UInt8},e.wr t→∀ {i dp:Nat} {g rest:List UInt8},i≤s.length→g.all isBlank=true→endOk rest=true→s.drop i=g++(t++rest)→dp+e.dpt≤12→AnyAt s i (i+g.length+t.length) dp e.e7
 | .lit v t',hw,t,ht,i,dp,g,rest,hi,hg,hr,hd,_=>by
  obtain rfl:t=t':=ht
  exact any_of_one (at_lit hs hw.1 hi hg hr hd)
 | .col w,hw,t,ht,i,dp,g,rest,hi,hg,hr,hd,_=>by
  obtain rfl:t=w:=ht
  obtain ⟨c,r,rfl,h1,h2,h3,h4⟩:=hw
  exact any_of_one (at_col hs h1 h2 h3 h4 hi hg hr hd)
 | .neg a,hw,t,ht,i,dp,g,rest,hi,hg,hr,hd,hdp=>by
  obtain ⟨u,hu,rfl⟩:=ht
  have hdp':dp+(a.dpt+2)≤12:=hdp
  have hd0:s.drop i=g++(mkW 9++(mkW 2++(u++(41::rest)))):=by
   rw [hd]
   show g++([45,40]++u++[41]++rest)=g++([45]++([40]++(u++(41::rest))))
   simp
  have r0:=rd_mark' (s:=s) (by omega) hi 9 (by decide) (by decide) hd0 hg
  have hd1:s.drop (i+g.length+1)=[]++(mkW 2++(u++(41::rest))):=by
   have:=drop_more (g:=mkW 9) (drop_more hd0)
   rw [List.nil_append];exact this
  have hil:=(drop_le (show s.drop (i+g.length+1)=40::(u++(41::rest)) from hd1)).1
  have r1:=rd_mark' (s:=s) (by omega) (by omega) 2 (by decide) (by decide) hd1 rfl
  have hd2:s.drop (i+g.length+1+([]:List UInt8).length+1)=[]++(u++(41::rest)):=by
   have:=drop_more (g:=mkW 2) (drop_more hd1)
   rw [List.nil_append];exact this
  obtain ⟨y,tu,hy,ha⟩:=xp_any a hw hu (i:=i+g.length+1+([]:List UInt8).length+1) (dp:=dp+2) (g:=[]) (rest:=41::rest) (by simp only [List.length_nil];omega) rfl rfl hd2 (by omega)
  have hd3:s.drop (i+g.length+1+([]:List UInt8).length+1+([]:List UInt8).length+u.length)=[]++(mkW 3++rest):=drop_more (g:=u) (drop_more hd2)
  have hil3:=(drop_le (show s.drop (i+g.length+1+([]:List UInt8).length+1+([]:List UInt8).length+u.length)=41::rest from hd3)).1
  have r3:=rd_mark' (s:=s) (by omega) (by omega) 3 (by decide) (by decide) hd3 rfl
  have el:i+g.length+([45,40]++u++[41]).length=i+g.length+1+([]:List UInt8).length+1+([]:List UInt8).length+u.length+([]:List UInt8).length+1:=by
   simp;omega
  rw [el]
  refine ⟨_,_,r0,fun z tz hz hst=>any_one rfl (one_neg ⟨show (5:Int)≠4 by decide,show (5:Int)≠3 by decide,rfl,rfl,rfl,fun _=>⟨_,_,r1,show (5:Int)≠3 by decide⟩⟩ rfl rfl (by omega) r1
   (one_par ⟨show (5:Int)≠4 by decide,show (5:Int)≠3 by decide,rfl,rfl,rfl,fun h=>by cases h⟩ rfl rfl (by omega) hy (ha _ _ r3 (fun w hw=>?_)) rfl hz)) hst⟩
  simp only [stops,List.mem_cons,List.not_mem_nil,or_false] at hw
  rcases hw with rfl|rfl|rfl|rfl|rfl|rfl|rfl|rfl|rfl|rfl<;>rfl
 | .not a,hw,t,ht,i,dp,g,rest,hi,hg,hr,hd,hdp=>by
  obtain ⟨g1,u,⟨r,rfl,hg1⟩,hu,rfl⟩:=ht
  have hdp':dp+(brd a.leaf a.dpt+1)≤12:=hdp
  have hd0:s.drop i=g++((110::[111,116])++((32::r)++(u++rest))):=by
   rw [hd];simp
  have r0:=rd_word (s:=s) (by omega) hi hd0 hg rfl rfl rfl (fun h=>absurd h (by decide)) (by decide)
  rw [not_w] at r0
  have hd1:=drop_more (g:=110::[111,116]) (drop_more hd0)
  have hil:=(drop_le (show s.drop (i+g.length+3)=32::(r++(u++rest)) from hd1)).1
  obtain ⟨y,tu,hy,hn,h⟩:=one_of_any hs a hw (fun hu=>xp_any a hw hu) hu (i:=i+g.length+3) (dp:=dp+1) (g:=32::r) (by omega) (by simpa [isBlank] using hg1) hr hd1 (by omega)
  have el:i+g.length+([110,111,116]++(32::r)++u).length=i+g.length+3+(32::r).length+u.length:=by
   simp;omega
  rw [el]
  exact ⟨_,_,r0,fun z tz hz hst=>any_not rfl (by omega) hy (not_one hn (h z tz hz) hst) (hst "and" (by decide)) (hst "or" (by decide))⟩
 | .isn a,hw,t,ht,i,dp,g,rest,hi,hg,hr,hd,hdp=>by
  obtain ⟨u,g1,g2,⟨p,rfl,hp⟩,⟨q,rfl,hq⟩,hu,rfl⟩:=ht
  have hp':(32::p).all isBlank=true:=by simpa [isBlank] using hp
  have hq':(32::q).all isBlank=true:=by simpa [isBlank] using hq
  have hd0:s.drop i=g++(u++((32::p)++((105::[115])++((32::q)++((110::[117,108,108])++rest))))):=by
   rw [hd];simp
  obtain ⟨y,tu,hy,hn,h⟩:=one_of_any hs a hw (fun hu=>xp_any a hw hu) hu hi hg rfl hd0 hdp
  have hd1:=drop_more (g:=u) (drop_more hd0)
  have hil:=(drop_le (show s.drop (i+g.length+u.length)=32::_ from hd1)).1
  have r2:=rd_word (s:=s) (by omega) (by omega) hd1 hp' rfl rfl rfl (fun h=>absurd h (by decide)) (by decide)
  rw [is_w] at r2
  have hd2:=drop_more (g:=105::[115]) (drop_more hd1)
  have hil2:=(drop_le (show s.drop (i+g.length+u.length+(32::p).length+2)=32::_ from hd2)).1
  have r3:=rd_word (s:=s) (i:=i+g.length+u.length+(32::p).length+2) (by omega) (by omega) hd2 hq' rfl rfl (endOk_facts hr).1 (fun h=>absurd h (by decide)) (by decide)
  rw [null_w] at r3
  have el:i+g.length+(u++(32::p)++[105,115]++(32::q)++[110,117,108,108]).length=i+g.length+u.length+(32::p).length+2+(32::q).length+4:=by
   simp;omega
  rw [el]
  refine ⟨y,tu,hy,fun z tz hz hst=>any_isn hn (h _ _ r2) (fun m hm=>?_) rfl r3 rfl hz (hst "and" (by decide)) (hst "or" (by decide))⟩
  simp only [List.mem_cons,List.not_mem_nil,or_false] at hm
  rcases hm with rfl|rfl|rfl|rfl|rfl|rfl|rfl<;>rfl
 | .op k a b,hw,t,ht,i,dp,g,rest,hi,hg,hr,hd,hdp=>by
  obtain ⟨u,g1,g2,v,⟨p,rfl,hp⟩,⟨q,rfl,hq⟩,hu,hv,rfl⟩:=ht
  have hp':(32::p).all isBlank=true:=by simpa [isBlank] using hp
  have hq':(32::q).all isBlank=true:=by simpa [isBlank] using hq
  have hdp':dp+max (brd a.leaf a.dpt) (brd b.leaf b.dpt)≤12:=hdp
  obtain ⟨hk,hwa,hwb⟩:=hw
  have hd0:s.drop i=g++(u++((32::p)++(opW k++(32::(q++(v++rest)))))):=by
   rw [hd];simp
  obtain ⟨y,tu,hy,hn,h⟩:=one_of_any hs a hwa (fun hu=>xp_any a hwa hu) hu (dp:=dp) hi hg rfl hd0 (by omega)
  have hd1:=drop_more (g:=u) (drop_more hd0)
  have hil:=(drop_le (show s.drop (i+g.length+u.length)=32::_ from hd1)).1
  obtain ⟨z1,r1,hz1⟩:=op_sign hs hk hp' (by omega) hd1
  have hd2:s.drop (i+g.length+u.length+(32::p).length+(opW k).length)=(32::q)++(v++rest):=drop_more (g:=opW k) (drop_more (g:=32::p) hd1)
  have hil2:=(drop_le (show s.drop (i+g.length+u.length+(32::p).length+(opW k).length)=32::_ from hd2)).1
  obtain ⟨y2,tu2,hy2,hn2,h2⟩:=one_of_any hs b hwb (fun hu=>xp_any b hwb hu) hv (i:=i+g.length+u.length+(32::p).length+(opW k).length) (dp:=dp) (g:=32::q) (by omega) hq' hr hd2 (by omega)
  have el:i+g.length+(u++(32::p)++opW k++(32::q)++v).length=i+g.length+u.length+(32::p).length+(opW k).length+(32::q).length+v.length:=by
   simp;omega
  rw [el]
  have hq:opsL.getD k (0, "")∈opsL:=by
   rw [List.getD_eq_getElem?_getD,List.getElem?_eq_getElem (show k < opsL.length from hk)]
   exact List.getElem_mem _
  exact ⟨y,tu,hy,fun z tz hz hst=>any_op hq hn (h _ _ r1) hz1 hy2 hn2 (h2 z tz hz) hst⟩
end
end Go.Proofs.YtdlkibeljkapeaaGreatDoor.Den
namespace Go.Proofs.YtdlkibeljkapeaaGreatDoor.Den
open Go Go.RowKit
end Go.Proofs.YtdlkibeljkapeaaGreatDoor.Den
namespace Go.Proofs.YtdlkibeljkapeaaGreatDoor.Den
open Go Go.RowKit
abbrev sA (x y r:PV):Fact:=.op (.bin .add ty_string) [x,y] r
def unA (k:Int):PV:=exA (nI k) (.str []) (nI 0) (nI 0) (nI 0) (.str []) (.slice 7 [eA 30])
def biA (k:Int):PV:=exA (nI k) (.str []) (nI 0) (nI 0) (nI 0) (.str []) (.slice 7 [eA 30,eA 60])
theorem pe_neg:okR (.atom 3) (callF PG (fOrc noOwn [.prim f_sql_Expr [eA 30] (.atom 1),sA (.str [45,40]) (.atom 1) (.atom 2),sA (.atom 2) (.str [41]) (.atom 3)]) 10 f_sql_Expr [unA 4] [])=true:=by kernel_rfl
theorem pe_not:okR (.atom 2) (callF PG (fOrc noOwn [.prim f_sql_within [eA 30] (.atom 1),sA (.str [110,111,116,32]) (.atom 1) (.atom 2)]) 10 f_sql_Expr [unA 3] [])=true:=by kernel_rfl
theorem pe_isn:okR (.atom 2) (callF PG (fOrc noOwn [.prim f_sql_within [eA 30] (.atom 1),sA (.atom 1) (.str isnB) (.atom 2)]) 10 f_sql_Expr [unA 5] [])=true:=by kernel_rfl
def peF (w:String):List Fact:=[.prim f_sql_within [eA 30] (.atom 1), .prim f_sql_within [eA 60] (.atom 2),sA (.atom 1) (.str [32]) (.atom 3),sA (.atom 3) (.str (kw w)) (.atom 4),sA (.atom 4) (.str [32]) (.atom 5),sA (.atom 5) (.atom 2) (.atom 6)]
theorem pe_op:(opsL.all fun q=>okR (.atom 6) (callF PG (fOrc noOwn (peF q.2)) 10 f_sql_Expr [biA q.1] []))=true:=by kernel_rfl
theorem re_neg:okR (.atom 3) (callF PG (fOrc noOwn [.prim f_r3_Expr [eA 30] (.atom 1),sA (.str [45,40]) (.atom 1) (.atom 2),sA (.atom 2) (.str [41]) (.atom 3)]) 10 f_r3_Expr [unA 4] [])=true:=by kernel_rfl
theorem re_not:okR (.atom 2) (callF PG (fOrc noOwn [.prim f_r3_child [eA 30] (.atom 1),sA (.str [110,111,116,32]) (.atom 1) (.atom 2)]) 10 f_r3_Expr [unA 3] [])=true:=by kernel_rfl
theorem re_isn:okR (.atom 2) (callF PG (fOrc noOwn [.prim f_r3_child [eA 30] (.atom 1),sA (.atom 1) (.str isnB) (.atom 2)]) 10 f_r3_Expr [unA 5] [])=true:=by kernel_rfl
def reF (w:String):List Fact:=[.prim f_r3_child [eA 30] (.atom 1), .prim f_r3_child [eA 60] (.atom 2),sA (.atom 1) (.str [32]) (.atom 3),sA (.atom 3) (.str (kw w)) (.atom 4),sA (.atom 4) (.str [32]) (.atom 5),sA (.atom 5) (.atom 2) (.atom 6)]
theorem re_op:(opsL.all fun q=>okR (.atom 6) (callF PG (fOrc noOwn (reF q.2)) 10 f_r3_Expr [biA q.1] []))=true:=by kernel_rfl
def kindsX:List Int:=[3,4,5,6,7,8,9,10,11,12,13,14]
def xK (k:Int):PV:=exA (nI k) (.atom 31) (.atom 32) (.atom 33) (.atom 34) (.atom 35) (.atom 36)
theorem wi_k:(kindsX.all fun k=>okR (.atom 3) (callF PG (fOrc noOwn [.prim f_sql_Expr [xK k] (.atom 1),sA (.str [40]) (.atom 1) (.atom 2),sA (.atom 2) (.str [41]) (.atom 3)]) 10 f_sql_within [xK k] []))=true:=by kernel_rfl
theorem ci_k:(kindsX.all fun k=>okR (.atom 3) (callF PG (fOrc noOwn [.prim f_r3_Expr [xK k] (.atom 1),sA (.str [40]) (.atom 1) (.atom 2),sA (.atom 2) (.str [41]) (.atom 3)]) 10 f_r3_child [xK k] []))=true:=by kernel_rfl
theorem wl_k:([1,2].all fun k=>okR (.atom 1) (callF PG (fOrc noOwn [.prim f_sql_Expr [xK k] (.atom 1)]) 10 f_sql_within [xK k] []))=true:=by kernel_rfl
theorem cl_k:([1,2].all fun k=>okR (.atom 1) (callF PG (fOrc noOwn [.prim f_r3_Expr [xK k] (.atom 1)]) 10 f_r3_child [xK k] []))=true:=by kernel_rfl
theorem le_kl:okR (.atom 1) (callF PG (fOrc noOwn [.prim f_sql_Lit [.agg [.atom 32, .atom 33, .atom 34, .atom 35]] (.atom 1)]) 10 f_sql_Expr [exA (nI 1) (.str []) (.atom 32) (.atom 33) (.atom 34) (.atom 35) .nilslice] [])=true:=by kernel_rfl
theorem lr_k:okR (.atom 1) (callF PG (fOrc noOwn [.prim f_r3_Lit [.agg [.atom 32, .atom 33, .atom 34, .atom 35]] (.atom 1)]) 10 f_r3_Expr [exA (nI 1) (.str []) (.atom 32) (.atom 33) (.atom 34) (.atom 35) .nilslice] [])=true:=by kernel_rfl
theorem ce_k:okR (.atom 1) (callF PG (fOrc noOwn []) 10 f_sql_Expr [exA (nI 2) (.atom 1) (nI 0) (nI 0) (nI 0) (.str []) .nilslice] [])=true:=by kernel_rfl
theorem cr_k:okR (.atom 1) (callF PG (fOrc noOwn []) 10 f_r3_Expr [exA (nI 2) (.atom 1) (nI 0) (nI 0) (nI 0) (.str []) .nilslice] [])=true:=by kernel_rfl
end Go.Proofs.YtdlkibeljkapeaaGreatDoor.Den
namespace Go.Proofs.YtdlkibeljkapeaaGreatDoor.Den
open Go Go.RowKit
theorem e7_ok:∀ (e:Xp),e.e7.ok=true
 | .lit _ _=>rfl
 | .col _=>rfl
 | .neg a=>E7.un_ok (e7_ok a)
 | .not a=>E7.un_ok (e7_ok a)
 | .isn a=>E7.un_ok (e7_ok a)
 | .op _ a b=>E7.bin_ok (e7_ok a) (e7_ok b)
def wiNu (t:List UInt8) (r:E7):List PV:=([nI 0, .str t, .str ([40]++t), .str ([40]++t++[41])]++List.replicate 26 (nI 0))++r.L
theorem wiNu_ok {t:List UInt8} {r:E7} (hr:r.ok=true):NuOk (nuL (wiNu t r)):=by
 refine nuL_okB ?_
 unfold wiNu
 rw [List.all_append,show (r.L.all fun p=>p.clean&&p.pure)=true from hr]
 rfl
theorem wi_of {f g:FuncId} (hkk:(kindsX.all fun k=>okR (.atom 3) (callF PG (fOrc noOwn [.prim g [xK k] (.atom 1),sA (.str [40]) (.atom 1) (.atom 2),sA (.atom 2) (.str [41]) (.atom 3)]) 10 f [xK k] []))=true)
  {k:Int} (hk:k∈kindsX) {r:E7} (hr:r.ok=true) (hrk:r.k=nI k) {t:List UInt8} (hl:t.length≤100000) (h:Ev PG g [r.pv] (.str t)):Ev PG f [r.pv] (.str ([40]++t++[41])):=by
 have hpu:=E7.pure hr
 obtain ⟨k',nm,v0,v1,v2,v3,l⟩:=r
 dsimp only at hrk
 subst hrk
 exact Ev.facts (nu:=nuL (wiNu t ⟨nI k,nm,v0,v1,v2,v3,l⟩)) (args:=[xK k]) prog_ok (wiNu_ok hr) (okR_eq (List.all_eq_true.1 hkk k hk))
  ⟨fprim h rfl rfl rfl,fStrAdd (l:=[40]) (m:=t) rfl rfl (by simp;omega) rfl rfl,fStrAdd (l:=[40]++t) (m:=[41]) rfl rfl (by simp;omega) rfl rfl,trivial⟩
  (by
   show ((PV.pure (E7.pv ⟨nI k,nm,v0,v1,v2,v3,l⟩)&&true)&&true&&true)=true
   rw [hpu];rfl) rfl
end Go.Proofs.YtdlkibeljkapeaaGreatDoor.Den
namespace Go.Proofs.YtdlkibeljkapeaaGreatDoor.Den
open Go Go.RowKit
def prNu (t1 t2 t3 t4 t5 t6:List UInt8) (r q:E7):List PV:=[nI 0, .str t1, .str t2, .str t3, .str t4, .str t5, .str t6]++(List.replicate 23 (nI 0)++(r.L++(List.replicate 23 (nI 0)++q.L)))
theorem prNu_ok {t1 t2 t3 t4 t5 t6:List UInt8} {r q:E7} (hr:r.ok=true) (hq:q.ok=true):NuOk (nuL (prNu t1 t2 t3 t4 t5 t6 r q)):=by
 refine nuL_okB ?_
 unfold prNu
 rw [List.all_append,List.all_append,List.all_append,List.all_append,show (r.L.all fun p=>p.clean&&p.pure)=true from hr,show (q.L.all fun p=>p.clean&&p.pure)=true from hq]
 rfl
structure Pr (e:Xp):Prop where
 x:Ev PG f_sql_Expr [e.e7.pv] (.str e.txt)
 w:Ev PG f_sql_within [e.e7.pv] (.str e.inn)
 rx:Ev PG f_r3_Expr [e.e7.pv] (.str e.txt)
 rw:Ev PG f_r3_child [e.e7.pv] (.str e.inn)
theorem leaf_of {f g:FuncId} (hkk:([1,2].all fun k=>okR (.atom 1) (callF PG (fOrc noOwn [.prim g [xK k] (.atom 1)]) 10 f [xK k] []))=true)
  {k:Int} (hk:k∈[(1:Int),2]) {r:E7} (hr:r.ok=true) (hrk:r.k=nI k) {t:List UInt8} (h:Ev PG g [r.pv] (.str t)):Ev PG f [r.pv] (.str t):=by
 have hpu:=E7.pure hr
 obtain ⟨k',nm,v0,v1,v2,v3,l⟩:=r
 dsimp only at hrk
 subst hrk
 exact Ev.facts (nu:=nuL (wiNu t ⟨nI k,nm,v0,v1,v2,v3,l⟩)) (args:=[xK k]) prog_ok (wiNu_ok hr) (okR_eq (List.all_eq_true.1 hkk k hk))
  ⟨fprim h rfl rfl rfl,trivial⟩
  (by
   show ((PV.pure (E7.pv ⟨nI k,nm,v0,v1,v2,v3,l⟩)&&true)&&true&&true)=true
   rw [hpu];rfl) rfl
theorem pr_leaf {e:Xp} {k:Int} (hk:k∈[(1:Int),2]) (hrk:e.e7.k=nI k) (hl:e.leaf=true) (h1:Ev PG f_sql_Expr [e.e7.pv] (.str e.txt)) (h2:Ev PG f_r3_Expr [e.e7.pv] (.str e.txt)):Pr e:=by
 have hi:e.inn=e.txt:=by unfold Xp.inn;rw [hl];rfl
 exact ⟨h1,by rw [hi];exact leaf_of wl_k hk (e7_ok e) hrk h1,h2,by rw [hi];exact leaf_of cl_k hk (e7_ok e) hrk h2⟩
theorem pr_more {e:Xp} {k:Int} (hk:k∈kindsX) (hrk:e.e7.k=nI k) (hl:e.leaf=false) (hlen:e.txt.length≤100000) (h1:Ev PG f_sql_Expr [e.e7.pv] (.str e.txt)) (h2:Ev PG f_r3_Expr [e.e7.pv] (.str e.txt)):Pr e:=by
 have hi:e.inn=[40]++e.txt++[41]:=by unfold Xp.inn;rw [hl];rfl
 exact ⟨h1,by rw [hi];exact wi_of wi_k hk (e7_ok e) hrk hlen h1,h2,by rw [hi];exact wi_of ci_k hk (e7_ok e) hrk hlen h2⟩
theorem brk_len (b:Bool) (t:List UInt8):(brk b t).length≤t.length+2∧t.length≤(brk b t).length:=by
 cases b with
 | true=>exact ⟨by show t.length≤_;omega,Nat.le_refl _⟩
 | false=>exact ⟨by simp [brk],by simp [brk];omega⟩
theorem opW_len:∀ i,i < 9→(opW i).length≤3:=by decide
theorem pr_ev:∀ (e:Xp),e.wf→e.txt.length≤100000→Pr e
 | .lit v t,hw,_=>by
  refine pr_leaf (k:=1) (by simp) rfl rfl ?_ ?_
  ·exact Ev.facts (nu:=nuL ([nI 0, .str t]++(List.replicate 30 (nI 0)++[nI v.1,nI v.2.1,nI v.2.2.1, .str v.2.2.2]))) (args:=[exA (nI 1) (.str []) (.atom 32) (.atom 33) (.atom 34) (.atom 35) .nilslice]) prog_ok (nuL_okB rfl) (okR_eq le_kl) ⟨fprim hw.1.one rfl rfl rfl,trivial⟩ rfl rfl
  ·exact Ev.facts (nu:=nuL ([nI 0, .str t]++(List.replicate 30 (nI 0)++[nI v.1,nI v.2.1,nI v.2.2.1, .str v.2.2.2]))) (args:=[exA (nI 1) (.str []) (.atom 32) (.atom 33) (.atom 34) (.atom 35) .nilslice]) prog_ok (nuL_okB rfl) (okR_eq lr_k) ⟨fprim hw.1.two rfl rfl rfl,trivial⟩ rfl rfl
 | .col w,_,_=>by
  refine pr_leaf (k:=2) (by simp) rfl rfl ?_ ?_
  ·exact Ev.facts (nu:=nuL [nI 0, .str w]) (args:=[exA (nI 2) (.atom 1) (nI 0) (nI 0) (nI 0) (.str []) .nilslice]) prog_ok (nuL_okB rfl) (okR_eq ce_k) trivial rfl rfl
  ·exact Ev.facts (nu:=nuL [nI 0, .str w]) (args:=[exA (nI 2) (.atom 1) (nI 0) (nI 0) (nI 0) (.str []) .nilslice]) prog_ok (nuL_okB rfl) (okR_eq cr_k) trivial rfl rfl
 | .neg a,hw,hl=>by
  have hl':([45,40]++a.txt++[41]).length≤100000:=hl
  simp only [List.length_append,List.length_cons,List.length_nil] at hl'
  have ha:=pr_ev a hw (by omega)
  have hpu:=E7.pure (E7.un_ok (k:=4) (e7_ok a))
  refine pr_more (k:=4) (by decide) rfl rfl hl ?_ ?_
  ·exact Ev.facts (nu:=nuL (prNu a.txt ([45,40]++a.txt) ([45,40]++a.txt++[41]) [] [] [] a.e7 a.e7)) (args:=[unA 4]) prog_ok (prNu_ok (e7_ok a) (e7_ok a)) (okR_eq pe_neg)
    ⟨fprim ha.x rfl rfl rfl,fStrAdd (l:=[45,40]) (m:=a.txt) rfl rfl (by simp;omega) rfl rfl,fStrAdd (l:=[45,40]++a.txt) (m:=[41]) rfl rfl (by simp;omega) rfl rfl,trivial⟩
    (by
     show ((PV.pure (E7.pv (E7.un 4 a.e7))&&true)&&true&&true)=true
     rw [hpu];rfl) rfl
  ·exact Ev.facts (nu:=nuL (prNu a.txt ([45,40]++a.txt) ([45,40]++a.txt++[41]) [] [] [] a.e7 a.e7)) (args:=[unA 4]) prog_ok (prNu_ok (e7_ok a) (e7_ok a)) (okR_eq re_neg)
    ⟨fprim ha.rx rfl rfl rfl,fStrAdd (l:=[45,40]) (m:=a.txt) rfl rfl (by simp;omega) rfl rfl,fStrAdd (l:=[45,40]++a.txt) (m:=[41]) rfl rfl (by simp;omega) rfl rfl,trivial⟩
    (by
     show ((PV.pure (E7.pv (E7.un 4 a.e7))&&true)&&true&&true)=true
     rw [hpu];rfl) rfl
 | .not a,hw,hl=>by
  have hl':([110,111,116,32]++a.inn).length≤100000:=hl
  have hb:=brk_len a.leaf a.txt
  have hi:a.inn=brk a.leaf a.txt:=rfl
  rw [hi] at hl'
  simp only [List.length_append,List.length_cons,List.length_nil] at hl'
  have ha:=pr_ev a hw (by omega)
  have hpu:=E7.pure (E7.un_ok (k:=3) (e7_ok a))
  refine pr_more (k:=3) (by decide) rfl rfl hl ?_ ?_
  ·exact Ev.facts (nu:=nuL (prNu a.inn ([110,111,116,32]++a.inn) [] [] [] [] a.e7 a.e7)) (args:=[unA 3]) prog_ok (prNu_ok (e7_ok a) (e7_ok a)) (okR_eq pe_not)
    ⟨fprim ha.w rfl rfl rfl,fStrAdd (l:=[110,111,116,32]) (m:=a.inn) rfl rfl (by rw [hi];simp;omega) rfl rfl,trivial⟩
    (by
     show ((PV.pure (E7.pv (E7.un 3 a.e7))&&true)&&true&&true)=true
     rw [hpu];rfl) rfl
  ·exact Ev.facts (nu:=nuL (prNu a.inn ([110,111,116,32]++a.inn) [] [] [] [] a.e7 a.e7)) (args:=[unA 3]) prog_ok (prNu_ok (e7_ok a) (e7_ok a)) (okR_eq re_not)
    ⟨fprim ha.rw rfl rfl rfl,fStrAdd (l:=[110,111,116,32]) (m:=a.inn) rfl rfl (by rw [hi];simp;omega) rfl rfl,trivial⟩
    (by
     show ((PV.pure (E7.pv (E7.un 3 a.e7))&&true)&&true&&true)=true
     rw [hpu];rfl) rfl
 | .isn a,hw,hl=>by
  have hl':(a.inn++isnB).length≤100000:=hl
  have hb:=brk_len a.leaf a.txt
  have hi:a.inn=brk a.leaf a.txt:=rfl
  rw [hi,List.length_append,show isnB.length=8 from rfl] at hl'
  have ha:=pr_ev a hw (by omega)
  have hpu:=E7.pure (E7.un_ok (k:=5) (e7_ok a))
  refine pr_more (k:=5) (by decide) rfl rfl hl ?_ ?_
  ·exact Ev.facts (nu:=nuL (prNu a.inn (a.inn++isnB) [] [] [] [] a.e7 a.e7)) (args:=[unA 5]) prog_ok (prNu_ok (e7_ok a) (e7_ok a)) (okR_eq pe_isn)
    ⟨fprim ha.w rfl rfl rfl,fStrAdd (l:=a.inn) (m:=isnB) rfl rfl (by rw [hi,show isnB.length=8 from rfl];omega) rfl rfl,trivial⟩
    (by
     show ((PV.pure (E7.pv (E7.un 5 a.e7))&&true)&&true&&true)=true
     rw [hpu];rfl) rfl
  ·exact Ev.facts (nu:=nuL (prNu a.inn (a.inn++isnB) [] [] [] [] a.e7 a.e7)) (args:=[unA 5]) prog_ok (prNu_ok (e7_ok a) (e7_ok a)) (okR_eq re_isn)
    ⟨fprim ha.rw rfl rfl rfl,fStrAdd (l:=a.inn) (m:=isnB) rfl rfl (by rw [hi,show isnB.length=8 from rfl];omega) rfl rfl,trivial⟩
    (by
     show ((PV.pure (E7.pv (E7.un 5 a.e7))&&true)&&true&&true)=true
     rw [hpu];rfl) rfl
 | .op k a b,hw,hl=>by
  obtain ⟨hk,hwa,hwb⟩:=hw
  have hl':(a.inn++[32]++opW k++[32]++b.inn).length≤100000:=hl
  have h1:=brk_len a.leaf a.txt
  have h2:=brk_len b.leaf b.txt
  have hia:a.inn=brk a.leaf a.txt:=rfl
  have hib:b.inn=brk b.leaf b.txt:=rfl
  have hop:=opW_len k hk
  simp only [List.length_append,List.length_cons,List.length_nil] at hl'
  have ha:=pr_ev a hwa (by rw [hia] at hl';omega)
  have hb:=pr_ev b hwb (by rw [hib] at hl';omega)
  have hpu:=E7.pure (E7.bin_ok (k:=(opsL.getD k (0, "")).1) (e7_ok a) (e7_ok b))
  have hq:opsL.getD k (0, "")∈opsL:=by
   rw [List.getD_eq_getElem?_getD,List.getElem?_eq_getElem (show k < opsL.length from hk)]
   exact List.getElem_mem _
  have hkx:(opsL.getD k (0, "")).1∈kindsX:=by
   have:∀ k,k < 9→(opsL.getD k (0, "")).1∈kindsX:=by decide
   exact this k hk
  have hS:∀ nu:Nat→PV,nu 1 = .str a.inn→nu 2 = .str b.inn→nu 3 = .str (a.inn++[32])→nu 4 = .str (a.inn++[32]++opW k)→nu 5 = .str (a.inn++[32]++opW k++[32])→nu 6 = .str (a.inn++[32]++opW k++[32]++b.inn) →
    FactsOk PG nu [sA (.atom 1) (.str [32]) (.atom 3),sA (.atom 3) (.str (kw (opsL.getD k (0, "")).2)) (.atom 4),sA (.atom 4) (.str [32]) (.atom 5),sA (.atom 5) (.atom 2) (.atom 6)]:=fun nu e1 e2 e3 e4 e5 e6 =>
   ⟨fStrAdd (l:=a.inn) (m:=[32]) e1 rfl (by simp;omega) e3 (by show (nu 3).one=true;rw [e3];rfl),fStrAdd (l:=a.inn++[32]) (m:=opW k) e3 rfl (by simp;omega) e4 (by show (nu 4).one=true;rw [e4];rfl),
    fStrAdd (l:=a.inn++[32]++opW k) (m:=[32]) e4 rfl (by simp;omega) e5 (by show (nu 5).one=true;rw [e5];rfl),fStrAdd (l:=a.inn++[32]++opW k++[32]) (m:=b.inn) e5 e2 (by simp;omega) e6 (by show (nu 6).one=true;rw [e6];rfl),trivial⟩
  refine pr_more (k:=(opsL.getD k (0, "")).1) hkx rfl rfl hl ?_ ?_
  ·exact Ev.facts (nu:=nuL (prNu a.inn b.inn (a.inn++[32]) (a.inn++[32]++opW k) (a.inn++[32]++opW k++[32]) (a.inn++[32]++opW k++[32]++b.inn) a.e7 b.e7)) (args:=[biA (opsL.getD k (0, "")).1]) prog_ok (prNu_ok (e7_ok a) (e7_ok b)) (okR_eq (List.all_eq_true.1 pe_op _ hq))
    ⟨fprim ha.w rfl rfl rfl,fprim hb.w rfl rfl rfl,hS _ rfl rfl rfl rfl rfl rfl⟩
    (by
     show ((PV.pure (E7.pv (E7.bin (opsL.getD k (0, "")).1 a.e7 b.e7))&&true)&&true&&true)=true
     rw [hpu];rfl) rfl
  ·exact Ev.facts (nu:=nuL (prNu a.inn b.inn (a.inn++[32]) (a.inn++[32]++opW k) (a.inn++[32]++opW k++[32]) (a.inn++[32]++opW k++[32]++b.inn) a.e7 b.e7)) (args:=[biA (opsL.getD k (0, "")).1]) prog_ok (prNu_ok (e7_ok a) (e7_ok b)) (okR_eq (List.all_eq_true.1 re_op _ hq))
    ⟨fprim ha.rw rfl rfl rfl,fprim hb.rw rfl rfl rfl,hS _ rfl rfl rfl rfl rfl rfl⟩
    (by
     show ((PV.pure (E7.pv (E7.bin (opsL.getD k (0, "")).1 a.e7 b.e7))&&true)&&true&&true)=true
     rw [hpu];rfl) rfl
end Go.Proofs.YtdlkibeljkapeaaGreatDoor.Den
namespace Go.Proofs.YtdlkibeljkapeaaGreatDoor.Den
open Go Go.RowKit
abbrev w6' (n:Int):Int:=IntKind.i64.wrap n
theorem w6_id' {n:Int} (h0 : -9223372036854775808≤n) (h1:n≤9223372036854775807):w6' n=n:=w6_id h0 h1
inductive RawT where
 | mk (k n:Int) (s:List UInt8) (nl:Nat) (l:List RawT)
mutual
def RawT.pv:RawT→PV
 | .mk k n s nl l=>.agg [nI k,nI n, .str s,(match nl with|0=>.nilslice|1=>.eslice|_=>.slice 4 (RawT.pvs l))]
def RawT.pvs:List RawT→List PV
 | []=>[]
 | r::l=>RawT.pv r::RawT.pvs l
end
def rawsP (nl:Nat) (l:List RawT):PV:=match nl with|0=>.nilslice|1=>.eslice|_=>.slice 4 (RawT.pvs l)
def RawT.k:RawT→Int | .mk k _ _ _ _=>k
def RawT.n:RawT→Int | .mk _ n _ _ _=>n
def RawT.s:RawT→List UInt8 | .mk _ _ s _ _=>s
def RawT.nl:RawT→Nat | .mk _ _ _ nl _=>nl
def RawT.l:RawT→List RawT | .mk _ _ _ _ l=>l
def nlOk (nl:Nat) (l:List RawT):Prop:=nl < 2→l=[]
abbrev In64 (n:Int):Prop:=-9223372036854775808≤n∧n≤9223372036854775807
mutual
def RawT.ok:RawT→Prop
 | .mk k n _ nl l=>(In64 k∧In64 n)∧nlOk nl l∧RawT.oks l
def RawT.oks:List RawT→Prop
 | []=>True
 | r::l=>RawT.ok r∧RawT.oks l
end
theorem pv_eq (r:RawT):r.pv = .agg [nI r.k,nI r.n, .str r.s,rawsP r.nl r.l]:=by cases r;rfl
theorem pvs_map:∀ l:List RawT,RawT.pvs l=l.map RawT.pv
 | []=>rfl
 | r::l=>by simp only [RawT.pvs,List.map_cons,pvs_map l]
mutual
theorem pv_pure:∀ r:RawT,r.pv.pure=true
 | .mk k n s nl l=>by
  simp only [RawT.pv,PV.pure,PV.pureL]
  have:=pvs_pure l
  split<;>simp [PV.pure,this]
theorem pvs_pure:∀ l:List RawT,PV.pureL (RawT.pvs l)=true
 | []=>rfl
 | r::l=>by simp only [RawT.pvs,PV.pureL,pv_pure r,pvs_pure l,Bool.and_self]
end
theorem raws_good (nl:Nat) (l:List RawT):(rawsP nl l).clean=true∧(rawsP nl l).pure=true∧(rawsP nl l).one=true:=by
 unfold rawsP
 split
 ·exact ⟨rfl,rfl,rfl⟩
 ·exact ⟨rfl,rfl,rfl⟩
 ·exact ⟨rfl,pvs_pure l,rfl⟩
theorem oks_get:∀ {l:List RawT},RawT.oks l→∀ {i:Nat} {r:RawT},l[i]? = some r→r.ok
 | [],_,i,r,h=>by simp at h
 | q::l,h,0,r,hr=>by simp at hr;subst hr;exact h.1
 | q::l,h,i+1,r,hr=>oks_get h.2 (i:=i) (by simpa using hr)
theorem rawLen_ok {nl:Nat} {l:List RawT} (h:nlOk nl l):lenP PG ty_sl_l3_Raw (rawsP nl l)=some (nI l.length):=by
 have hu:PG.underlying ty_sl_l3_Raw=some (.slice ty_l3_Raw):=by kernel_rfl
 unfold lenP
 rw [hu]
 match nl,h with
 | 0,h=>rw [h (by decide)];rfl
 | 1,h=>rw [h (by decide)];rfl
 | nl+2,_ =>
  show some (nI ((RawT.pvs l).length:Nat))=_
  rw [pvs_map,List.length_map]
theorem rawIx_ok {nl:Nat} {l:List RawT} (h:nlOk nl l) {i:Nat} {r:RawT} (hr:l[i]? = some r):indexAddrP PG ty_sl_l3_Raw (rawsP nl l) (nI i)=some (.ref [nI r.k,nI r.n, .str r.s,rawsP r.nl r.l]):=by
 have hu:PG.underlying ty_sl_l3_Raw=some (.slice ty_l3_Raw):=by kernel_rfl
 have hs:sizeP PG ty_l3_Raw=some 4:=by kernel_rfl
 unfold indexAddrP
 rw [hu]
 have hne:¬ nl < 2:=fun hlt=>by rw [h hlt] at hr;simp at hr
 have e:rawsP nl l = .slice 4 (RawT.pvs l):=by
  match nl,hne with
  | 0,hne=>exact absurd (by decide) hne
  | 1,hne=>exact absurd (by decide) hne
  | nl+2,_=>rfl
 rw [e]
 have:(RawT.pvs l)[((i:Nat):Int).toNat]? = some (.agg [nI r.k,nI r.n, .str r.s,rawsP r.nl r.l]):=by
  rw [pvs_map]
  simp [hr,pv_eq]
 simp only [hs,true_and]
 rw [if_pos (by omega),this]
 rfl
def sizeO (rec:List RawT→Int):List RawT→Int→Option Int
 | [],n=>some n
 | x::xs,n=>if n≤16 then (if 100 < x.s.length then none else sizeO rec xs (n+1+rec x.l)) else some n
def sizeM:Nat→List RawT→Int
 | 0,_=>1000
 | d+1,l=>(sizeO (sizeM d) l 0).getD 1000
theorem sizeO_bd {rec:List RawT→Int} {M:Int} (hM:1000≤M) (h:∀ l,0≤rec l∧rec l≤M):∀ (l:List RawT) (n:Int),0≤n→n≤M+17→0≤(sizeO rec l n).getD 1000∧(sizeO rec l n).getD 1000≤M+17
 | [],n,h0,h1=>⟨h0,h1⟩
 | x::xs,n,h0,h1=>by
  unfold sizeO
  have:=h x.l
  split
  ·split
   ·simp only [Option.getD_none];omega
   ·exact sizeO_bd hM h xs _ (by omega) (by omega)
  ·exact ⟨h0,h1⟩
theorem sizeM_bd:∀ (d:Nat) (l:List RawT),0≤sizeM d l∧sizeM d l≤1000+17*d
 | 0,_=>by simp [sizeM]
 | d+1,l=>by
  have:=sizeO_bd (rec:=sizeM d) (M:=1000+17*d) (by omega) (sizeM_bd d) l 0 (by omega) (by omega)
  unfold sizeM
  omega
def szT:List (Nat × PV):=[(0, .atom 0),(1, .atom 1),(5, .atom 2),(6, .atom 3)]
def szA (b:Bool):List Fact:=[.op (.len ty_sl_l3_Raw) [.atom 0] (.atom 4),oI .lss (.atom 3) (.atom 4) (.bool b)]
def szB (q:Bool):List Fact :=
 szA true++[oI .leq (.atom 2) (nI 16) (.bool true), .op (.ix ty_sl_l3_Raw) [.atom 0, .atom 3] (.ref [.atom 5, .atom 6, .atom 7, .atom 8]),oI .add (.atom 2) (nI 1) (.atom 9),oI .add (.atom 1) (nI 1) (.atom 10), .prim f_l3_size [.atom 8, .atom 10] (.atom 11),
  oI .add (.atom 9) (.atom 11) (.atom 12), .op (.len ty_string) [.atom 7] (.atom 13),oI .gtr (.atom 13) (nI 100) (.bool q),oI .add (.atom 3) (nI 1) (.atom 14)]
noncomputable abbrev szRun (fs:List Fact):Option (Ex × St):=execN PG (fOrc noOwn fs) (callF PG (fOrc noOwn fs) 5) ((fOrc noOwn fs).loop f_l3_size) 5 3 (loopAt PG f_l3_size 5) ⟨szT,[]⟩
theorem sz_lone:loneB PG f_l3_size 5=true:=by kernel_rfl
theorem sz_a:runsB (szRun (szA false)) (.exit 0) [(5, .atom 2)] []=true:=by kernel_rfl
theorem sz_b:runsB (szRun (szA true++[oI .leq (.atom 2) (nI 16) (.bool false)])) (.exit 0) [(5, .atom 2)] []=true:=by kernel_rfl
theorem sz_c:runsB (szRun (szB true)) .ret [(4,nI 1000)] []=true:=by kernel_rfl
theorem sz_d:runsB (szRun (szB false)) .normal [(0, .atom 0),(1, .atom 1),(5, .atom 12),(6, .atom 14)] []=true:=by kernel_rfl
theorem subT_sz (a b c d:PV) (l:List PV):subT (nuL (a::b::c::d::l)) szT=[(0,a),(1,b),(5,c),(6,d)]:=rfl
set_option maxRecDepth 20000 in
theorem sz_loop {d:Nat} (hd:d≤7) {dp:Int} (hdp:0≤dp∧dp≤7) (hrec:∀ nl l,nlOk nl l→RawT.oks l→Ev PG f_l3_size [rawsP nl l,nI (dp+1)] (nI (sizeM d l))) {nl:Nat} {l:List RawT} (hn:nlOk nl l) (ho:RawT.oks l) :
  ∀ (xs:List RawT) (i:Nat) (n:Int),l.drop i=xs→(i:Int)≤n→n≤2000 →
   RunsR PG (ntOf PG f_l3_size) (loopAt PG f_l3_size 5) [(0,rawsP nl l),(1,nI dp),(5,nI n),(6,nI i)] [] (match sizeO (sizeM d) xs n with|some _=>.exit 0|none=>.ret) (match sizeO (sizeM d) xs n with|some m=>[(5,nI m)]|none=>[(4,nI 1000)]) []:=by
 intro xs
 have hg:=raws_good nl l
 have hgc:(rawsP nl l).clean=true:=hg.1
 induction xs with
 | nil =>
  intro i n hi h1 h2
  have hlen:l.length≤i:=by
   have:=congrArg List.length hi
   simp at this;omega
  have hge:¬ ((i:Nat):Int) < (l.length:Int):=by omega
  refine RunsR.leave ?_ (fun h=>by cases h)
  have hnu:NuOk (nuL [rawsP nl l,nI dp,nI n,nI i,nI l.length]):=nuL_okB (by simp only [List.all_cons,hg.1,hg.2.1];rfl)
  refine RunsP.chk prog_ok hnu (T:=szT) (s:=[]) (T':=[(5, .atom 2)]) (s':=[]) sz_lone sz_a ⟨?_,?_,trivial⟩ ?_ rfl rfl
  ·exact ⟨rawLen_ok hn,rfl⟩
  ·exact fCmp (c:=false) (a:=i) (b:=l.length) rfl rfl rfl (by simp only [intP];rw [decide_eq_false hge]) (by decide) rfl
  ·rw [subT_sz]
   show (((rawsP nl l).pure&&_)&&((rawsP nl l).one&&_))=true
   rw [hg.2.1,hg.2.2];rfl
 | cons x xs ih =>
  intro i n hi h1 h2
  have hx:l[i]? = some x:=by
   have:=congrArg (fun z=>z[0]?) hi
   simpa using this
  have hil:i < l.length:=(List.getElem?_eq_some_iff.1 hx).1
  have hxs:l.drop (i+1)=xs:=by
   have:=congrArg List.tail hi
   simpa using this
  have hlt:((i:Nat):Int) < (l.length:Int):=by omega
  unfold sizeO
  by_cases h16:n≤16
  ·rw [if_pos h16]
   have hok:=oks_get ho hx
   have hgx:=raws_good x.nl x.l
   have hxo:nlOk x.nl x.l∧RawT.oks x.l:=by cases x;exact hok.2
   have hcall:=hrec x.nl x.l hxo.1 hxo.2
   have hb:=sizeM_bd d x.l
   have e1:w6' (n+1)=n+1:=w6_id' (by omega) (by omega)
   have e2:w6' (dp+1)=dp+1:=w6_id' (by omega) (by omega)
   have e3:w6' (n+1+sizeM d x.l)=n+1+sizeM d x.l:=w6_id' (by omega) (by omega)
   have e4:w6' ((i:Int)+1)=((i+1:Nat):Int):=by rw [w6_id' (by omega) (by omega)];omega
   have hnu:NuOk (nuL [rawsP nl l,nI dp,nI n,nI i,nI l.length,nI x.k,nI x.n, .str x.s,rawsP x.nl x.l,nI (n+1),nI (dp+1),nI (sizeM d x.l),nI (n+1+sizeM d x.l),nI x.s.length,nI (i+1:Nat)]) :=
    nuL_okB (by simp only [List.all_cons,hg.1,hg.2.1,hgx.1,hgx.2.1];rfl)
   have hfacts:∀ q,decide (((x.s.length:Nat):Int) > 100)=q→FactsOk PG (nuL [rawsP nl l,nI dp,nI n,nI i,nI l.length,nI x.k,nI x.n, .str x.s,rawsP x.nl x.l,nI (n+1),nI (dp+1),nI (sizeM d x.l),nI (n+1+sizeM d x.l),nI x.s.length,nI (i+1:Nat)]) (szB q):=fun q hq=>by
    unfold szB szA
    refine ⟨⟨rawLen_ok hn,rfl⟩,?_,?_,⟨?_,?_⟩,?_,?_,?_,?_,⟨?_,rfl⟩,?_,?_,trivial⟩
    ·exact fCmp (c:=true) (a:=i) (b:=l.length) rfl rfl rfl (by simp only [intP];rw [decide_eq_true hlt]) (by decide) rfl
    ·exact fCmp (c:=true) (a:=n) (b:=16) rfl rfl rfl (by simp only [intP];rw [decide_eq_true h16]) (by decide) rfl
    ·exact rawIx_ok hn hx
    ·rfl
    ·exact fInt (a:=n) (b:=1) rfl rfl rfl (by simp only [intP];rw [show IntKind.i64.wrap (n+1)=_ from e1]) (by decide) rfl
    ·exact fInt (a:=dp) (b:=1) rfl rfl rfl (by simp only [intP];rw [show IntKind.i64.wrap (dp+1)=_ from e2]) (by decide) rfl
    ·exact fprim hcall rfl rfl rfl
    ·exact fInt (a:=n+1) (b:=sizeM d x.l) rfl rfl rfl (by simp only [intP];rw [show IntKind.i64.wrap (n+1+sizeM d x.l)=_ from e3]) (by decide) rfl
    ·show lenP PG ty_string (.str x.s)=some (nI x.s.length)
     have hu:PG.underlying ty_string=some .string:=by kernel_rfl
     unfold lenP
     rw [hu]
    ·exact fCmp (c:=q) (a:=x.s.length) (b:=100) rfl rfl rfl (by simp only [intP];rw [hq]) (by decide) rfl
    ·exact fInt (a:=i) (b:=1) rfl rfl rfl (by simp only [intP];rw [show IntKind.i64.wrap ((i:Int)+1)=_ from e4]) (by decide) rfl
   have hT:∀ {nu:Nat→PV},nu 0=rawsP nl l→nu 1=nI dp→nu 2=nI n→nu 3=nI i→(pureT (subT nu szT)&&oneT nu szT)=true:=fun {nu} a0 a1 a2 a3=>by
    show (((nu 0).pure&&((nu 1).pure&&((nu 2).pure&&((nu 3).pure&&true))))&&((nu 0).one&&((nu 1).one&&((nu 2).one&&((nu 3).one&&true)))))=true
    rw [a0,a1,a2,a3,hg.2.1,hg.2.2];rfl
   by_cases h100:100 < x.s.length
   ·rw [if_pos h100]
    refine RunsR.leave ?_ (fun h=>by cases h)
    exact RunsP.chk prog_ok hnu (T:=szT) (s:=[]) (T':=[(4,nI 1000)]) (s':=[]) sz_lone sz_c (hfacts true (by simp;omega)) (hT rfl rfl rfl rfl) rfl rfl
   ·rw [if_neg h100]
    refine RunsR.round ?_ (ih (i+1) (n+1+sizeM d x.l) hxs (by omega) (by omega))
    refine RunsP.chk prog_ok hnu (T:=szT) (s:=[]) (T':=[(0, .atom 0),(1, .atom 1),(5, .atom 12),(6, .atom 14)]) (s':=[]) sz_lone sz_d (hfacts false (by simp;omega)) (hT rfl rfl rfl rfl) rfl ?_
    show (((rawsP nl l).pure&&_)&&_)=true
    rw [hg.2.1];rfl
  ·rw [if_neg h16]
   refine RunsR.leave ?_ (fun h=>by cases h)
   have hnu:NuOk (nuL [rawsP nl l,nI dp,nI n,nI i,nI l.length]):=nuL_okB (by simp only [List.all_cons,hg.1,hg.2.1];rfl)
   refine RunsP.chk prog_ok hnu (T:=szT) (s:=[]) (T':=[(5, .atom 2)]) (s':=[]) sz_lone sz_b ⟨⟨rawLen_ok hn,rfl⟩,?_,?_,trivial⟩ ?_ rfl rfl
   ·exact fCmp (c:=true) (a:=i) (b:=l.length) rfl rfl rfl (by simp only [intP];rw [decide_eq_true hlt]) (by decide) rfl
   ·exact fCmp (c:=false) (a:=n) (b:=16) rfl rfl rfl (by simp only [intP];rw [decide_eq_false h16]) (by decide) rfl
   ·rw [subT_sz]
    show (((rawsP nl l).pure&&_)&&((rawsP nl l).one&&_))=true
    rw [hg.2.1,hg.2.2];rfl
theorem sz_k0:okR (nI 1000) (callF PG (fOrc noOwn [oI .gtr (.atom 1) (nI 6) (.bool true)]) 5 f_l3_size [.atom 0, .atom 1] [])=true:=by kernel_rfl
theorem sz_k1:okR (.atom 2) (callF PG (fOrc noOwn [oI .gtr (.atom 1) (nI 6) (.bool false), .loop f_l3_size 5 [(0, .atom 0),(1, .atom 1),(5,nI 0),(6,nI 0)] [] (.exit 0) [(5, .atom 2)] []]) 5 f_l3_size [.atom 0, .atom 1] [])=true:=by kernel_rfl
theorem sz_k2:okR (nI 1000) (callF PG (fOrc noOwn [oI .gtr (.atom 1) (nI 6) (.bool false), .loop f_l3_size 5 [(0, .atom 0),(1, .atom 1),(5,nI 0),(6,nI 0)] [] .ret [(4,nI 1000)] []]) 5 f_l3_size [.atom 0, .atom 1] [])=true:=by kernel_rfl
set_option maxRecDepth 20000 in
theorem size_ev:∀ (d:Nat),d≤7→∀ nl l,nlOk nl l→RawT.oks l→Ev PG f_l3_size [rawsP nl l,nI (7 - d)] (nI (sizeM d l))
 | 0,_,nl,l,hn,ho=>by
  have hg:=raws_good nl l
  refine Ev.facts prog_ok (nuL_okB (l:=[rawsP nl l,nI 7]) (by simp only [List.all_cons,hg.1,hg.2.1];rfl)) (okR_eq sz_k0) ⟨fCmp (c:=true) (a:=7) (b:=6) rfl rfl rfl rfl (by decide) rfl,trivial⟩ ?_ rfl
  show (((rawsP nl l).pure&&(rawsP nl l).one)&&true&&_)=true
  rw [hg.2.1,hg.2.2];rfl
 | d+1,hd,nl,l,hn,ho=>by
  have hg:=raws_good nl l
  have hrec:∀ nl l,nlOk nl l→RawT.oks l→Ev PG f_l3_size [rawsP nl l,nI ((7 - ((d+1:Nat):Int))+1)] (nI (sizeM d l)):=fun nl l h1 h2=>by
   have:=size_ev d (by omega) nl l h1 h2
   rw [show (7 - ((d+1:Nat):Int))+1=7 - (d:Int) by omega]
   exact this
  have hloop:=sz_loop (d:=d) (by omega) (dp:=7 - ((d+1:Nat):Int)) (by omega) hrec hn ho l 0 0 rfl (by decide) (by decide)
  have hgt:¬ (7 - ((d+1:Nat):Int)) > 6:=by omega
  unfold sizeM
  cases hs:sizeO (sizeM d) l 0 with
  | some m =>
   rw [hs] at hloop
   refine Ev.facts prog_ok (nuL_okB (l:=[rawsP nl l,nI (7 - ((d+1:Nat):Int)),nI m]) (by simp only [List.all_cons,hg.1,hg.2.1];rfl)) (okR_eq sz_k1)
    ⟨fCmp (c:=false) (a:=7 - ((d+1:Nat):Int)) (b:=6) rfl rfl rfl (by simp only [intP];rw [decide_eq_false hgt]) (by decide) rfl,fLoopOk sz_lone (Nat.le_refl _) hloop rfl,trivial⟩ ?_ rfl
   show (((rawsP nl l).pure&&(rawsP nl l).one)&&true&&_)=true
   rw [hg.2.1,hg.2.2];rfl
  | none =>
   rw [hs] at hloop
   refine Ev.facts prog_ok (nuL_okB (l:=[rawsP nl l,nI (7 - ((d+1:Nat):Int))]) (by simp only [List.all_cons,hg.1,hg.2.1];rfl)) (okR_eq sz_k2)
    ⟨fCmp (c:=false) (a:=7 - ((d+1:Nat):Int)) (b:=6) rfl rfl rfl (by simp only [intP];rw [decide_eq_false hgt]) (by decide) rfl,fLoopOk sz_lone (Nat.le_refl _) hloop rfl,trivial⟩ ?_ rfl
   show (((rawsP nl l).pure&&(rawsP nl l).one)&&true&&_)=true
   rw [hg.2.1,hg.2.2];rfl
end Go.Proofs.YtdlkibeljkapeaaGreatDoor.Den
namespace Go.Proofs.YtdlkibeljkapeaaGreatDoor.Den
open Go Go.RowKit
open Go.ChangeShapes Go.WideShapes Go.Joins
theorem flat4_get {α β:Type} (f:α→List β):∀ (l:List α),(∀ a∈l,(f a).length=4)→∀ j,(l.flatMap f)[j]? = (l[j / 4]?).bind fun a=>(f a)[j % 4]?
 | [],_,j=>by simp
 | a::l,h,j=>by
  have ha:=h a (by simp)
  rw [List.flatMap_cons]
  by_cases hj:j < 4
  ·rw [List.getElem?_append_left (by omega)]
   have e1:j / 4=0:=by omega
   have e2:j % 4=j:=by omega
   rw [e1,e2];rfl
  ·rw [List.getElem?_append_right (by omega),ha,flat4_get f l (fun b hb=>h b (by simp [hb])) (j - 4)]
   have e1:j / 4=(j - 4) / 4+1:=by omega
   have e2:(j - 4) % 4=j % 4:=by omega
   rw [e1,e2];rfl
theorem cell_spot {w:World} {a:Addr} {v:Value} (h:w.cell? a=some v):a.spot=none:=by
 unfold World.cell? at h
 split at h
 ·split at h
  ·cases h
  ·rename_i hs
   simpa using hs
 ·cases h
theorem cells4 {w:World} {a:Addr} {cs:List Value} (h:w.cells? 0 a 4=some cs):∃ c0 c1 c2 c3,cs=[c0,c1,c2,c3]∧w.cell? a=some c0∧w.cell? (a.add 1)=some c1∧w.cell? (a.add 2)=some c2∧w.cell? (a.add 3)=some c3:=by
 obtain ⟨_,hl,hc⟩:=World.cells?_some h
 match cs,hl with
 | [c0,c1,c2,c3],_ =>
  exact ⟨c0,c1,c2,c3,rfl,by simpa [Addr.add] using hc 0 (by decide),by simpa using hc 1 (by decide),by simpa using hc 2 (by decide),by simpa using hc 3 (by decide)⟩
theorem wf64 {n:Int} (h:(Lit.int .i64 n).wf=true):In64 n:=bounds_i64 h
def rawUndB (k:Option TypeDesc):Bool:=match k with
 | some (.struct fs)=>match fs.toList with
  | [f0,f1,f2,f3]=>Nat.beq f0.type ty_int&&(Nat.beq f0.offset 0&&(Nat.beq f1.type ty_int&&(Nat.beq f1.offset 1&&(Nat.beq f2.type ty_string&&(Nat.beq f2.offset 2&&(Nat.beq f3.type ty_sl_l3_Raw&&Nat.beq f3.offset 3))))))
  | _=>false
 | _=>false
theorem rawUnd_k:rawUndB (PG.underlying ty_l3_Raw)=true:=by kernel_rfl
theorem rawUnd:∃ f0 f1 f2 f3:Field,PG.underlying ty_l3_Raw=some (.struct #[f0,f1,f2,f3])∧(f0.type=ty_int∧f0.offset=0)∧(f1.type=ty_int∧f1.offset=1)∧(f2.type=ty_string∧f2.offset=2)∧(f3.type=ty_sl_l3_Raw∧f3.offset=3):=by
 have h:=rawUnd_k
 generalize PG.underlying ty_l3_Raw=k at h
 unfold rawUndB at h
 split at h
 ·rename_i fs
  split at h
  ·rename_i f0 f1 f2 f3 hl
   simp only [Bool.and_eq_true,Nat.beq_eq] at h
   obtain ⟨a1,a2,a3,a4,a5,a6,a7,a8⟩:=h
   have:fs = #[f0,f1,f2,f3]:=by
    rw [← Array.toArray_toList (xs:=fs),hl]
   rw [this]
   exact ⟨f0,f1,f2,f3,rfl,⟨a1,a2⟩,⟨a3,a4⟩,⟨a5,a6⟩,a7,a8⟩
  ·cases h
 ·cases h
theorem u_slRaw:PG.underlying ty_sl_l3_Raw=some (.slice ty_l3_Raw):=by kernel_rfl
theorem u_int:PG.underlying ty_int=some (.int .i64):=by kernel_rfl
theorem c_Raw:PG.cellsOf ty_l3_Raw=4:=by kernel_rfl
theorem c_int:PG.cellsOf ty_int=1:=by kernel_rfl
theorem c_string:PG.cellsOf ty_string=1:=by kernel_rfl
theorem c_slRaw:PG.cellsOf ty_sl_l3_Raw=1:=by kernel_rfl
structure RawAt (W:World) (r:RawT) (c:Nat→Value):Prop where
 ok:r.ok
 c0:c 0 = .int .i64 r.k
 c1:c 1 = .int .i64 r.n
 c2:c 2 = .string ⟨r.s.toArray⟩
 c3:R (worldMap W) (rawsP r.nl r.l) (c 3)∧(c 3).oneCell'=true
theorem rawAt_cell {W:World} {r:RawT} {c:Nat→Value} (h:RawAt W r c) {j:Nat} {p:PV} (hp:r.pv.cellsD[j]? = some p):R (worldMap W) p (c j)∧(c j).oneCell'=true∧p.clean=true:=by
 rw [pv_eq] at hp
 match j,hp with
 | 0,hp=>cases hp;rw [h.c0];exact ⟨.int _ _,rfl,rfl⟩
 | 1,hp=>cases hp;rw [h.c1];exact ⟨.int _ _,rfl,rfl⟩
 | 2,hp=>cases hp;rw [h.c2];exact ⟨.str ⟨r.s.toArray⟩,rfl,rfl⟩
 | 3,hp=>cases hp;exact ⟨h.c3.1,h.c3.2,(raws_good _ _).1⟩
theorem oks_of:∀ {l:List RawT},(∀ r∈l,r.ok)→RawT.oks l
 | [],_=>trivial
 | r::l,h=>⟨h r (by simp),oks_of fun q hq=>h q (by simp [hq])⟩
theorem raws_trod {H:Type} {enc:TypeId × Value→H} {W:World}:∀ (fuel:Nat) (cs:List Value) (x:DataW H × List MemPlace),DataW.trod enc PG W 0 (fun _=>true) true fuel ty_sl_l3_Raw cs=some x →
  ∃ nl l v,cs=[v]∧nlOk nl l∧RawT.oks l∧R (worldMap W) (rawsP nl l) v∧v.oneCell'=true:=by
 intro fuel
 induction fuel using Nat.strongRecOn with
 | _ fuel ih =>
  intro cs x h
  rcases DataW.trod_slice u_slRaw h with ⟨rfl,_⟩|⟨a,len,cap,elems,rest,n,hfuel,rfl,rfl,_,hl,hm,hlen,hel,hsp,_⟩
  ·exact ⟨0,[],_,rfl,fun _=>rfl,trivial, .nilslice,rfl⟩
  ·by_cases hcap:cap=0
   ·have:len=0:=by omega
    subst this hcap
    exact ⟨1,[],_,rfl,fun _=>rfl,trivial, .eslice a,rfl⟩
   ·have hspot:a.spot=none:=by
     by_cases h0:0 < len
     ·have h1:=hel 0 h0
      rw [List.getElem?_eq_getElem (by omega),Option.bind_eq_some_iff] at h1
      obtain ⟨c4,hc4,_⟩:=h1
      rw [c_Raw] at hc4
      obtain ⟨_,_,_,_,_,hc,_⟩:=cells4 hc4
      have:=cell_spot hc
      simpa [Addr.add] using this
     ·obtain ⟨hr,h1⟩:=hsp rfl
      have h1:=h1 0 (by omega)
      rw [List.getElem?_eq_getElem (by omega),Option.bind_eq_some_iff] at h1
      obtain ⟨c4,hc4,_⟩:=h1
      rw [c_Raw] at hc4
      obtain ⟨_,_,_,_,_,hc,_⟩:=cells4 hc4
      have:=cell_spot hc
      have e:len=0:=by omega
      subst e
      simpa [Addr.add] using this
    obtain ⟨b,o,sp⟩:=a
    simp only at hspot
    subst hspot
    obtain ⟨f0,f1,f2,f3,hu,⟨t0,o0⟩,⟨t1,o1⟩,⟨t2,o2⟩,t3,o3⟩:=rawUnd
    have each:∀ i,∃ (q:RawT × (Nat→Value)),i < len→RawAt W q.1 q.2∧∀ j,j < 4→W.cell? ⟨b,o+(i*4+j),none⟩=some (q.2 j):=fun i=>by
     by_cases hi:i < len
     ·have h1:=hel i hi
      rw [List.getElem?_eq_getElem (by omega),Option.bind_eq_some_iff] at h1
      obtain ⟨c4,hc4,ht⟩:=h1
      rw [c_Raw] at hc4
      obtain ⟨c0,c1,c2,c3,rfl,k0,k1,k2,k3⟩:=cells4 hc4
      obtain ⟨ys,m,hm',_,_,_,hfx⟩:=DataW.trod_struct hu ht
      have s0:=hfx 0 f0 rfl
      have s1:=hfx 1 f1 rfl
      have s2:=hfx 2 f2 rfl
      have s3:=hfx 3 f3 rfl
      rename_i hys
      have hy:ys.length=4:=hys
      rw [t0,o0,c_int,List.getElem?_eq_getElem (by omega)] at s0
      rw [t1,o1,c_int,List.getElem?_eq_getElem (by omega)] at s1
      rw [t2,o2,c_string,List.getElem?_eq_getElem (by omega)] at s2
      rw [t3,o3,c_slRaw,List.getElem?_eq_getElem (by omega)] at s3
      obtain ⟨kk,e0,_,w0⟩:=DataW.trod_int u_int s0
      obtain ⟨nn,e1,_,w1⟩:=DataW.trod_int u_int s1
      obtain ⟨ss,e2,_,_⟩:=DataW.trod_string u_string s2
      have hmf:m < fuel:=by omega
      obtain ⟨nl,l,v,e3,g1,g2,g3,g4⟩:=ih m hmf _ _ s3
      simp at e0 e1 e2 e3
      subst e0 e1 e2 e3
      refine ⟨(.mk kk nn ss.data.toList nl l,fun j=>[Value.int .i64 kk, .int .i64 nn, .string ss,c3].getD j Go.undef),fun _=>⟨⟨⟨⟨wf64 w0,wf64 w1⟩,g1,g2⟩,rfl,rfl,rfl,g3,g4⟩,fun j hj=>?_⟩⟩
      have hj4:j=0∨j=1∨j=2∨j=3:=by omega
      rw [add_plain] at k0 k1 k2 k3
      rcases hj4 with rfl|rfl|rfl|rfl
      ·exact k0
      ·exact k1
      ·exact k2
      ·exact k3
     ·exact ⟨(.mk 0 0 [] 0 [],fun _=>Go.undef),fun h=>absurd h hi⟩
    obtain ⟨q,hq⟩:=Classical.axiomOfChoice each
    have hlen':((List.range len).map fun i=>(q i).1).length=len:=by simp
    refine ⟨2,(List.range len).map (fun i=>(q i).1),_,rfl,fun h=>absurd h (by decide),oks_of fun r hr=>?_,?_,rfl⟩
    ·obtain ⟨i,hi,rfl⟩:=List.mem_map.1 hr
     rw [List.mem_range] at hi
     exact (hq i hi).1.ok
    ·have hget:∀ j p,((RawT.pvs ((List.range len).map fun i=>(q i).1)).flatMap PV.cellsD)[j]? = some p→j / 4 < len∧(q (j / 4)).1.pv.cellsD[j % 4]? = some p:=fun j p hp=>by
      rw [pvs_map,flat4_get PV.cellsD _ (fun a ha=>by
       obtain ⟨r,_,rfl⟩:=List.mem_map.1 ha
       rw [pv_eq];rfl)] at hp
      rw [List.getElem?_map,List.getElem?_map] at hp
      by_cases hj:j / 4 < len
      ·rw [List.getElem?_range hj] at hp
       exact ⟨hj,hp⟩
      ·rw [List.getElem?_eq_none (by simp;omega)] at hp
       cases hp
     have:=R.slice (X:=worldMap W) 4 (RawT.pvs ((List.range len).map fun i=>(q i).1)) b o cap (fun j=>(q (j / 4)).2 (j % 4)) (fun p hp=>by
      rw [pvs_map] at hp
      obtain ⟨r,_,rfl⟩:=List.mem_map.1 hp
      rw [pv_eq];rfl) (by decide) (by rw [pvs_map];simp;exact hl)
      (fun j p hp=>by
       obtain ⟨hj,_⟩:=hget j p hp
       have:=(hq (j / 4) hj).2 (j % 4) (by omega)
       rw [show j / 4*4+j % 4=j by omega] at this
       exact this)
      (fun j p hp=>by
       obtain ⟨hj,hp'⟩:=hget j p hp
       exact (rawAt_cell (hq (j / 4) hj).1 hp').1)
      (fun j p hp=>by
       obtain ⟨hj,hp'⟩:=hget j p hp
       exact (rawAt_cell (hq (j / 4) hj).1 hp').2)
     rw [pvs_map,List.length_map,hlen'] at this
     show R (worldMap W) (.slice 4 (RawT.pvs _)) _
     rw [pvs_map]
     exact this
set_option maxRecDepth 20000 in
theorem raws_arg {H:Type} {enc:TypeId × Value→H} {W:World} {base:Nat} {v:Value} {d:DataW H} {p:List MemPlace} (hv:Value.okWide PG W .any base ty_sl_l3_Raw v) (h:DataW.Trod enc PG W 0 (fun _=>true) true ty_sl_l3_Raw v d p) :
  ∃ nl l,nlOk nl l∧RawT.oks l∧R (worldMap W) (rawsP nl l) v:=by
 obtain ⟨a0,len0,cap0,rfl⟩:=okWide_slice u_slRaw hv
 obtain ⟨fuel,hf⟩:=h
 obtain ⟨nl,l,v,e,h1,h2,h3,_⟩:=raws_trod fuel _ _ hf
 simp [Value.cells] at e
 subst e
 exact ⟨nl,l,h1,h2,h3⟩
end Go.Proofs.YtdlkibeljkapeaaGreatDoor.Den
namespace Go.Proofs.YtdlkibeljkapeaaGreatDoor.Den
open Go Go.RowKit
open Go.Proofs.YtdlkibeljkapeaaGreatDoor.B
def rA:PV:=.agg [.atom 0, .atom 1, .atom 2, .atom 3]
noncomputable abbrev mkR (k:Nat) (r:PV) (fs:List Fact):Bool:=okR r (callF PG (fOrc noOwn (.prim f_l3_within [.atom 0,nI 20] (nI k)::fs)) 20 f_l3_Raw_Make [rA] [])
def mkL:List Fact:=[oI .quo (.atom 1) (nI 7) (.atom 5), .prim f_l1_Make [.atom 1, .atom 5, .atom 2] (.agg [.atom 6, .atom 7, .atom 8, .atom 9])]
theorem mk_lit:((List.range 5).all fun k=>mkR k (exA (nI 1) (.str []) (.atom 6) (.atom 7) (.atom 8) (.atom 9) .nilslice) mkL)=true:=by kernel_rfl
def colsL:List (List UInt8):=[[97],[98],[99],[100],[101],[102]]
theorem mk_col:((List.range 4).all fun k=>(List.range 6).all fun c=>mkR (5+k) (exA (nI 2) (.str (colsL.getD c [])) (nI 0) (nI 0) (nI 0) (.str []) .nilslice) [.prim f_l3_within [.atom 1,nI 6] (nI c)])=true:=by kernel_rfl
theorem mk_un:((List.range 3).all fun k=>mkR (9+k) (unA ((3+k:Nat):Int)) [.prim f_l3_Raw_part [rA,nI 0] (eA 30)])=true:=by kernel_rfl
theorem mk_bin:((List.range 8).all fun k=>(List.range 9).all fun i=>mkR (12+k) (biA ((6+i:Nat):Int)) [oI .add (.atom 1) (nI (12+k:Nat)) (.atom 10), .prim f_l3_within [.atom 10,nI 9] (nI i), .prim f_l3_Raw_part [rA,nI 0] (eA 30), .prim f_l3_Raw_part [rA,nI 1] (eA 60)])=true:=by kernel_rfl
def paL (b:Bool) (i:Nat):List Fact:=[.op (.len ty_sl_l3_Raw) [.atom 3] (.atom 11),oI .lss (nI i) (.atom 11) (.bool b)]
theorem pa_k1:((List.range 2).all fun i=>okR (eA 30) (callF PG (fOrc noOwn (paL true i++[.op (.ix ty_sl_l3_Raw) [.atom 3,nI i] (.ref [.atom 12, .atom 13, .atom 14, .atom 15]), .prim f_l3_Raw_Make [.agg [.atom 12, .atom 13, .atom 14, .atom 15]] (eA 30)])) 20 f_l3_Raw_part [rA,nI i] []))=true:=by kernel_rfl
theorem pa_k2:((List.range 2).all fun i=>(List.range 5).all fun c=>okR (exA (nI 1) (.str []) (nI 2) (nI ((c:Int) - 2)) (nI 0) (.str []) .nilslice) (callF PG (fOrc noOwn (paL false i++[oI .add (.atom 1) (nI i) (.atom 10), .prim f_l3_within [.atom 10,nI 5] (nI c)])) 20 f_l3_Raw_part [rA,nI i] []))=true:=by kernel_rfl
theorem int_lit {n:Int} (hn : -9223372036854775808≤n∧n≤9223372036854775807):LitOk (2,n,0,[]) (sgnL n++whN n 0)∧nobl (sgnL n++whN n 0):=by
 have hl:=(dgN_len (n:=n) (k:=0) hn (by decide)).2
 have hw:(whN n 0).length≤100:=by unfold whN;rw [List.length_take];omega
 have hsg:(sgnL n).length≤1:=by unfold sgnL;split<;>simp
 exact ⟨⟨by rw [List.length_append];omega,slit_int hn,rlit_int hn,fun hs hi hg hr h=>lit_int hs hi hg hr hn h⟩,nobl_digits (wh_digit hn (by decide)).1 _⟩
theorem sizeO_le {rec:List RawT→Int} (h0:∀ l,0≤rec l):∀ (l:List RawT) (n m:Int),sizeO rec l n=some m→n≤m
 | [],n,m,h=>by cases h;omega
 | x::xs,n,m,h=>by
  unfold sizeO at h
  split at h
  ·split at h
   ·cases h
   ·have:=sizeO_le h0 xs _ _ h
    have:=h0 x.l
    omega
  ·cases h;omega
theorem sizeO_few {rec:List RawT→Int} (h0:∀ l,0≤rec l):∀ (l:List RawT) (n:Int),(sizeO rec l n).getD 1000≤16→0≤n→∀ x∈l,x.s.length≤100∧rec x.l≤16
 | [],_,_,_=>by simp
 | x::xs,n,h,hn=>by
  unfold sizeO at h
  split at h
  ·split at h
   ·simp at h
   ·intro y hy
    cases hs:sizeO rec xs (n+1+rec x.l) with
    | none=>rw [hs] at h;simp at h
    | some m =>
     have h1:=h
     rw [hs] at h1
     simp only [Option.getD_some] at h1
     have h2:=sizeO_le h0 xs _ _ hs
     have:=h0 x.l
     rcases List.mem_cons.1 hy with rfl|hy
     ·exact ⟨by omega,by omega⟩
     ·exact sizeO_few h0 xs _ h (by omega) y hy
  ·simp only [Option.getD_some] at h
   omega
theorem sizeM_few {d:Nat} {l:List RawT} (h:sizeM d l≤16):∃ d',d=d'+1∧∀ x∈l,x.s.length≤100∧sizeM d' x.l≤16:=by
 cases d with
 | zero=>simp [sizeM] at h
 | succ d'=>exact ⟨d',rfl,fun x hx=>sizeO_few (fun l=>(sizeM_bd d' l).1) l 0 h (by decide) x hx⟩
def mkNu (r:RawT) (v:V4) (q:Int) (n11:PV) (x:RawT) (e f:E7):List PV:=[nI r.k,nI r.n, .str r.s,rawsP r.nl r.l,nI 0,nI (w6' (r.n.tdiv 7)),nI v.1,nI v.2.1,nI v.2.2.1, .str v.2.2.2,nI q,n11,nI x.k,nI x.n, .str x.s,rawsP x.nl x.l]++(List.replicate 14 (nI 0)++(e.L++(List.replicate 23 (nI 0)++f.L)))
theorem mkNu_ok {r:RawT} {v:V4} {q n11:Int} {x:RawT} {e f:E7} (he:e.ok=true) (hf:f.ok=true):NuOk (nuL (mkNu r v q (nI n11) x e f)):=by
 refine nuL_okB ?_
 unfold mkNu
 have h1:=raws_good r.nl r.l
 have h2:=raws_good x.nl x.l
 rw [List.all_append,List.all_append,List.all_append,List.all_append,show (e.L.all fun p=>p.clean&&p.pure)=true from he,show (f.L.all fun p=>p.clean&&p.pure)=true from hf]
 simp only [List.all_cons,h1.1,h1.2.1,h2.1,h2.2.1]
 rfl
theorem raw_arg {nu:Nat→PV} {r:RawT} (h0:nu 0=nI r.k) (h1:nu 1=nI r.n) (h2:nu 2 = .str r.s) (h3:nu 3=rawsP r.nl r.l):subD nu rA=r.pv∧(argB nu rA&&rA.shut)=true:=by
 have e:subD nu rA=r.pv:=by
  show PV.agg [nu 0,nu 1,nu 2,nu 3]=_
  rw [h0,h1,h2,h3,pv_eq]
 refine ⟨e,?_⟩
 show ((subD nu rA).pure&&true&&true)=true
 rw [e,pv_pure];rfl
end Go.Proofs.YtdlkibeljkapeaaGreatDoor.Den
namespace Go.Proofs.YtdlkibeljkapeaaGreatDoor.Den
open Go Go.RowKit
open Go.Proofs.YtdlkibeljkapeaaGreatDoor.B
theorem E7.ps {r:E7} (h:r.ok=true):(r.pv.pure&&r.pv.shut2)=true:=by
 have h1:=E7.pure h
 simp only [E7.ok,E7.L,List.all_cons,List.all_nil,Bool.and_eq_true,Bool.and_true] at h
 rw [h1,Bool.true_and]
 simp [E7.pv,E7.L,PV.shut2,PV.shut,h]
structure MkOk (g:FuncId) (args:List PV) (d:Nat) (e:Xp):Prop where
 wf:e.wf
 dp:e.dpt≤2*d
 len:e.txt.length≤400*2 ^ d - 100
 ev:Ev PG g args e.e7.pv
theorem col_wf:∀ c,c < 6→(Xp.col (colsL.getD c [])).wf:=by
 have hk:((List.range 6).all fun c=>match colsL.getD c [] with|c::r=>isSmall c&&r.all isInner&&Nat.ble r.length 11 && !keysL.contains (c::r) | []=>false)=true:=by kernel_rfl
 intro c hc
 have:=List.all_eq_true.1 hk c (by rw [List.mem_range];omega)
 cases hq:colsL.getD c [] with
 | nil=>rw [hq] at this;cases this
 | cons a r =>
  rw [hq] at this
  simp only [Bool.and_eq_true,Nat.ble_eq,Bool.not_eq_true'] at this
  exact ⟨a,r,rfl,this.1.1.1,this.1.1.2,this.1.2,this.2⟩
theorem wN (n:Int) (m:Int) (h0:0 < m) (h1:m≤1000):∃ k:Nat,wthn n m=k∧(k:Int) < m:=by
 obtain ⟨k,h2,h3⟩:=wthn_nat n m.toNat (by omega) (by omega)
 have e:((m.toNat:Nat):Int)=m:=by omega
 rw [e] at h2
 exact ⟨k,h2,by omega⟩
theorem pow_le (d:Nat):1≤2 ^ d:=Nat.one_le_two_pow
theorem r_ok {r:RawT} (h:r.ok):(In64 r.k∧In64 r.n)∧nlOk r.nl r.l∧RawT.oks r.l:=by cases r;exact h
set_option maxRecDepth 20000 in
theorem part_ev {d:Nat} (ih:∀ r:RawT,r.ok→r.s.length≤100→sizeM d r.l≤16→∃ e,MkOk f_l3_Raw_Make [r.pv] d e) {r:RawT} (hr:r.ok) (hf:∀ x∈r.l,x.s.length≤100∧sizeM d x.l≤16) {i:Nat} (hi:i < 2):∃ e,MkOk f_l3_Raw_part [r.pv,nI i] d e:=by
 have hro:=r_ok hr
 have hp2:=pow_le d
 have hmem:i∈List.range 2:=by rw [List.mem_range];exact hi
 have hg:∀ (e f:E7),e.ok=true→f.ok=true→∀ q n11 v x,NuOk (nuL (mkNu r v q (nI n11) x e f)):=fun e f he hf q n11 v x=>mkNu_ok he hf
 have hargs:∀ nu:Nat→PV,nu 0=nI r.k→nu 1=nI r.n→nu 2 = .str r.s→nu 3=rawsP r.nl r.l→([rA,nI i].all (fun p=>argB nu p&&p.shut)=true)∧[rA,nI i].map (subD nu)=[r.pv,nI i]:=fun nu h0 h1 h2 h3=>by
  have:=raw_arg h0 h1 h2 h3
  refine ⟨?_,?_⟩
  ·simp only [List.all_cons,this.2];rfl
  ·show [subD nu rA,nI i]=_
   rw [this.1]
 by_cases hil:i < r.l.length
 ·obtain ⟨x,hx⟩:∃ x,r.l[i]? = some x:=⟨_,List.getElem?_eq_getElem hil⟩
  have hxm:=hf x (List.mem_of_getElem? hx)
  obtain ⟨e,he⟩:=ih x (oks_get hro.2.2 hx) hxm.1 hxm.2
  refine ⟨e,he.wf,he.dp,he.len,?_⟩
  have ha:=hargs (nuL (mkNu r v0 0 (nI r.l.length) x e.e7 e.e7)) rfl rfl rfl rfl
  have hev:=he.ev
  rw [pv_eq] at hev
  have:=Ev.facts (nu:=nuL (mkNu r v0 0 (nI r.l.length) x e.e7 e.e7)) (args:=[rA,nI i]) (r:=eA 30) prog_ok (hg _ _ (e7_ok e) (e7_ok e) _ _ _ _) (okR_eq (List.all_eq_true.1 pa_k1 i hmem))
   ⟨⟨rawLen_ok hro.2.1,rfl⟩,fCmp (c:=true) (a:=i) (b:=r.l.length) rfl rfl rfl (by simp only [intP];rw [decide_eq_true (by omega)]) (by decide) rfl,⟨rawIx_ok hro.2.1 hx,rfl⟩,fprim hev rfl rfl rfl,trivial⟩ ha.1
   (E7.ps (e7_ok e))
  rw [ha.2] at this
  exact this
 ·obtain ⟨c,hw,hc⟩:=wN (w6' (r.n+i)) 5 (by decide) (by decide)
  have hn : -9223372036854775808≤((c:Int) - 2)∧((c:Int) - 2)≤9223372036854775807:=by omega
  have hl:=int_lit hn
  refine ⟨.lit (2,(c:Int) - 2,0,[]) _,hl,Nat.zero_le _,?_,?_⟩
  ·exact Nat.le_trans hl.1.len (by omega)
  ·have ha:=hargs (nuL (mkNu r v0 (w6' (r.n+i)) (nI r.l.length) r E7.zero E7.zero)) rfl rfl rfl rfl
   have hwe:=within3_ev (w6' (r.n+i)) 5 (by decide)
   rw [hw] at hwe
   have:=Ev.facts (nu:=nuL (mkNu r v0 (w6' (r.n+i)) (nI r.l.length) r E7.zero E7.zero)) (args:=[rA,nI i]) prog_ok (hg _ _ rfl rfl _ _ _ _) (okR_eq (List.all_eq_true.1 (List.all_eq_true.1 pa_k2 i hmem) c (by rw [List.mem_range];omega)))
    ⟨⟨rawLen_ok hro.2.1,rfl⟩,fCmp (c:=false) (a:=i) (b:=r.l.length) rfl rfl rfl (by simp only [intP];rw [decide_eq_false (by omega)]) (by decide) rfl,fInt (a:=r.n) (b:=i) rfl rfl rfl rfl (by decide) rfl,fprim hwe rfl rfl rfl,trivial⟩ ha.1 rfl
   rw [ha.2] at this
   exact this
theorem brd_le (b:Bool) (n:Nat):brd b n≤n+1:=by cases b<;>simp [brd]
theorem wB:∀ k:Nat,k < 20→k < 5∨(∃ j,j < 4∧k=5+j)∨(∃ j,j < 3∧k=9+j)∨(∃ j,j < 8∧k=12+j):=fun k h=>by
 by_cases h1:k < 5
 ·exact .inl h1
 ·by_cases h2:k < 9
  ·exact .inr (.inl ⟨k - 5,by omega,by omega⟩)
  ·by_cases h3:k < 12
   ·exact .inr (.inr (.inl ⟨k - 9,by omega,by omega⟩))
   ·exact .inr (.inr (.inr ⟨k - 12,by omega,by omega⟩))
set_option maxRecDepth 20000 in
theorem make_ev:∀ (d:Nat) (r:RawT),r.ok→r.s.length≤100→sizeM d r.l≤16→∃ e,MkOk f_l3_Raw_Make [r.pv] d e
 | 0,r,_,_,h=>by simp [sizeM] at h
 | d+1,r,hr,hs,h=>by
  obtain ⟨d',hd,hf⟩:=sizeM_few h
  obtain rfl:d=d':=by omega
  have hro:=r_ok hr
  have hp2:=pow_le d
  have hp3:2 ^ (d+1)=2*2 ^ d:=by rw [Nat.pow_succ];omega
  obtain ⟨k,hw,hk⟩:=wN r.k 20 (by decide) (by decide)
  have hwe:=within3_ev r.k 20 (by decide)
  rw [hw] at hwe
  have hargs:∀ nu:Nat→PV,nu 0=nI r.k→nu 1=nI r.n→nu 2 = .str r.s→nu 3=rawsP r.nl r.l→([rA].all (fun p=>argB nu p&&p.shut)=true)∧[rA].map (subD nu)=[r.pv]:=fun nu h0 h1 h2 h3=>by
   have:=raw_arg h0 h1 h2 h3
   refine ⟨?_,?_⟩
   ·simp only [List.all_cons,this.2];rfl
   ·show [subD nu rA]=_
    rw [this.1]
  obtain ⟨a,ha⟩:=part_ev (make_ev d) hr hf (i:=0) (by decide)
  obtain ⟨b,hb⟩:=part_ev (make_ev d) hr hf (i:=1) (by decide)
  have hia:=brk_len a.leaf a.txt
  have hib:=brk_len b.leaf b.txt
  have hda:=brd_le a.leaf a.dpt
  have hdb:=brd_le b.leaf b.dpt
  have hla:=ha.len
  have hlb:=hb.len
  have hpa:=ha.dp
  have hpb:=hb.dp
  have fun1:∀ (e f:E7) (q:Int) (v:V4),[PV.atom 0,nI 20].map (subD (nuL (mkNu r v q (nI 0) r e f)))=[nI r.k,nI 20]:=fun e f q v=>rfl
  have hA:∀ (e f:E7) (q:Int) (v:V4),FactOk PG (nuL (mkNu r v q (nI 0) r e f)) (.prim f_l3_within [.atom 0,nI 20] (nI k)):=fun e f q v=>fprim hwe rfl rfl rfl
  have hP:∀ (q:Int) (v:V4),FactOk PG (nuL (mkNu r v q (nI 0) r a.e7 b.e7)) (.prim f_l3_Raw_part [rA,nI 0] (eA 30))∧FactOk PG (nuL (mkNu r v q (nI 0) r a.e7 b.e7)) (.prim f_l3_Raw_part [rA,nI 1] (eA 60)):=fun q v=>by
   have:=raw_arg (nu:=nuL (mkNu r v q (nI 0) r a.e7 b.e7)) (r:=r) rfl rfl rfl rfl
   exact ⟨fprim ha.ev (by show [subD _ rA,nI 0]=_;rw [this.1];rfl) rfl rfl,fprim hb.ev (by show [subD _ rA,nI 1]=_;rw [this.1];rfl) rfl rfl⟩
  rcases wB k (by omega) with h5|⟨j,hj,rfl⟩|⟨j,hj,rfl⟩|⟨j,hj,rfl⟩
  ·have h7 : -9223372036854775808≤r.n.tdiv 7∧r.n.tdiv 7≤9223372036854775807:=by
    have:=hro.1.2
    have h1:(r.n.tdiv 7).natAbs=r.n.natAbs / 7:=Int.natAbs_tdiv r.n 7
    omega
   have e7:w6' (r.n.tdiv 7)=r.n.tdiv 7:=w6_id h7.1 h7.2
   obtain ⟨N,S,st,hm,he⟩:=makeB_ev r.n (w6' (r.n.tdiv 7)) r.s hro.1.2 (by rw [e7];unfold I64;omega) (by omega)
   obtain ⟨t,ht,hnb⟩:=made_lit hm hm.v.i
   have htl:=ht.len
   refine ⟨.lit (r.n % 6,N,(S:Nat),st.data.toList) t,⟨ht,hnb⟩,Nat.zero_le _,by show t.length≤_;omega,?_⟩
   have hh:=hargs (nuL (mkNu r (r.n % 6,N,(S:Nat),st.data.toList) 0 (nI 0) r E7.zero E7.zero)) rfl rfl rfl rfl
   have:=Ev.facts (nu:=nuL (mkNu r (r.n % 6,N,(S:Nat),st.data.toList) 0 (nI 0) r E7.zero E7.zero)) (args:=[rA]) prog_ok (mkNu_ok rfl rfl) (okR_eq (List.all_eq_true.1 mk_lit k (by rw [List.mem_range];exact h5)))
    ⟨hA _ _ _ _,fInt rfl rfl rfl rfl (by decide) rfl,fprim he rfl rfl rfl,trivial⟩ hh.1 rfl
   rw [hh.2] at this
   exact this
  ·obtain ⟨c,hw2,hc⟩:=wN r.n 6 (by decide) (by decide)
   have hwe2:=within3_ev r.n 6 (by decide)
   rw [hw2] at hwe2
   refine ⟨.col (colsL.getD c []),col_wf c (by omega),Nat.zero_le _,?_,?_⟩
   ·have:∀ c,c < 6→(colsL.getD c []).length≤1:=by decide
    have:=this c (by omega)
    show (colsL.getD c []).length≤_
    omega
   ·have hh:=hargs (nuL (mkNu r v0 0 (nI 0) r E7.zero E7.zero)) rfl rfl rfl rfl
    have:=Ev.facts (nu:=nuL (mkNu r v0 0 (nI 0) r E7.zero E7.zero)) (args:=[rA]) prog_ok (mkNu_ok rfl rfl) (okR_eq (List.all_eq_true.1 (List.all_eq_true.1 mk_col j (by rw [List.mem_range];exact hj)) c (by rw [List.mem_range];omega)))
     ⟨hA _ _ _ _,fprim hwe2 rfl rfl rfl,trivial⟩ hh.1 rfl
    rw [hh.2] at this
    exact this
  ·have hh:=hargs (nuL (mkNu r v0 0 (nI 0) r a.e7 b.e7)) rfl rfl rfl rfl
   have hev:=Ev.facts (nu:=nuL (mkNu r v0 0 (nI 0) r a.e7 b.e7)) (args:=[rA]) prog_ok (mkNu_ok (e7_ok a) (e7_ok b)) (okR_eq (List.all_eq_true.1 mk_un j (by rw [List.mem_range];exact hj)))
     ⟨hA _ _ _ _,(hP 0 v0).1,trivial⟩ hh.1
     (E7.ps (r:=E7.un ((3+j:Nat):Int) a.e7) (E7.un_ok (e7_ok a)))
   rw [hh.2] at hev
   have h3:j=0∨j=1∨j=2:=by omega
   rcases h3 with rfl|rfl|rfl
   ·refine ⟨.not a,ha.wf,?_,?_,hev⟩
    ·show brd a.leaf a.dpt+1≤_
     omega
    ·show ([110,111,116,32]++brk a.leaf a.txt).length≤_
     simp only [List.length_append,List.length_cons,List.length_nil];omega
   ·refine ⟨.neg a,ha.wf,?_,?_,hev⟩
    ·show a.dpt+2≤_
     omega
    ·show ([45,40]++a.txt++[41]).length≤_
     simp only [List.length_append,List.length_cons,List.length_nil];omega
   ·refine ⟨.isn a,ha.wf,?_,?_,hev⟩
    ·show brd a.leaf a.dpt≤_
     omega
    ·show (brk a.leaf a.txt++isnB).length≤_
     rw [List.length_append,show isnB.length=8 from rfl];omega
  ·obtain ⟨i,hw2,hi⟩:=wN (w6' (r.n+(12+j:Nat))) 9 (by decide) (by decide)
   have hwe2:=within3_ev (w6' (r.n+(12+j:Nat))) 9 (by decide)
   rw [hw2] at hwe2
   have hop:=opW_len i (by omega)
   have hh:=hargs (nuL (mkNu r v0 (w6' (r.n+(12+j:Nat))) (nI 0) r a.e7 b.e7)) rfl rfl rfl rfl
   have hev:=Ev.facts (nu:=nuL (mkNu r v0 (w6' (r.n+(12+j:Nat))) (nI 0) r a.e7 b.e7)) (args:=[rA]) prog_ok (mkNu_ok (e7_ok a) (e7_ok b)) (okR_eq (List.all_eq_true.1 (List.all_eq_true.1 mk_bin j (by rw [List.mem_range];exact hj)) i (by rw [List.mem_range];omega)))
     ⟨hA _ _ _ _,fInt (a:=r.n) (b:=(12+j:Nat)) rfl rfl rfl rfl (by decide) rfl,fprim hwe2 rfl rfl rfl,(hP _ v0).1,(hP _ v0).2,trivial⟩ hh.1
     (E7.ps (r:=E7.bin ((6+i:Nat):Int) a.e7 b.e7) (E7.bin_ok (e7_ok a) (e7_ok b)))
   rw [hh.2] at hev
   have hki:∀ i,i < 9→((6+i:Nat):Int)=(opsL.getD i (0, "")).1:=by decide
   refine ⟨.op i a b,⟨by omega,ha.wf,hb.wf⟩,?_,?_,?_⟩
   ·show max (brd a.leaf a.dpt) (brd b.leaf b.dpt)≤_
    omega
   ·show (brk a.leaf a.txt++[32]++opW i++[32]++brk b.leaf b.txt).length≤_
    simp only [List.length_append,List.length_cons,List.length_nil];omega
   ·show Ev PG f_l3_Raw_Make [r.pv] (E7.pv (E7.bin (opsL.getD i (0, "")).1 a.e7 b.e7))
    rw [← hki i (by omega)]
    exact hev
end Go.Proofs.YtdlkibeljkapeaaGreatDoor.Den
namespace Go.Proofs.YtdlkibeljkapeaaGreatDoor.Den
open Go Go.RowKit
def litX:PV:=exA (nI 1) (.str []) (.atom 32) (.atom 33) (.atom 34) (.atom 35) .nilslice
def vX:PV:=.agg [.atom 32, .atom 33, .atom 34, .atom 35]
theorem sx_un:([3,4,5].all fun k=>okR (.bool true) (callF PG (fOrc noOwn [.prim f_r3_Exprs [eA 30,eA 30] (.bool true)]) 10 f_r3_Exprs [unA k,unA k] []))=true:=by kernel_rfl
theorem sx_bin:(opsL.all fun q=>okR (.bool true) (callF PG (fOrc noOwn [.prim f_r3_Exprs [eA 30,eA 30] (.bool true), .prim f_r3_Exprs [eA 60,eA 60] (.bool true)]) 10 f_r3_Exprs [biA q.1,biA q.1] []))=true:=by kernel_rfl
theorem sx_lit:okR (.bool true) (callF PG (fOrc noOwn [.op (.bin .neq ty_api_Value) [vX,vX] (.bool false)]) 10 f_r3_Exprs [litX,litX] [])=true:=by kernel_rfl
def colX:PV:=exA (nI 2) (.atom 1) (nI 0) (nI 0) (nI 0) (.str []) .nilslice
theorem sx_col:okR (.bool true) (callF PG (fOrc noOwn [.op (.bin .neq ty_string) [.atom 1, .atom 1] (.bool false)]) 10 f_r3_Exprs [colX,colX] [])=true:=by kernel_rfl
theorem sx_zero:okR (.bool true) (callF PG (fOrc noOwn []) 10 f_r3_Exprs [E7.zero.pv,E7.zero.pv] [])=true:=by kernel_rfl
def neG4 (b0 b1 b2 b3:Bool):Option PV:=match (match b0 with|true=>(match b1 with|true=>(match b2 with|true=>(match b3 with|true=>some true|false=>some false)|false=>some false)|false=>some false)|false=>some false:Option Bool) with|some b=>some (PV.bool !b)|none=>none
theorem neV_k (a b c a' b' c':Int) (s s':List UInt8):binP PG .neq ty_api_Value (.agg [nI a,nI b,nI c, .str s]) (.agg [nI a',nI b',nI c', .str s'])=neG4 (a==a') (b==b') (c==c') (s==s'):=by kernel_rfl
theorem neV_self (v:V4):binP PG .neq ty_api_Value (Den.vP v) (Den.vP v)=some (.bool false):=by
 unfold Den.vP
 rw [neV_k]
 simp [neG4]
theorem two_args {nu:Nat→PV} {p:PV} (h1:(subD nu p).pure=true) (h2:oneB nu p=true) (h3:p.shut=true):([p,p].all fun p=>argB nu p&&p.shut)=true:=by
 simp only [List.all_cons,argB,h1,h2,h3];rfl
theorem exprs_ev:∀ e:Xp,Ev PG f_r3_Exprs [e.e7.pv,e.e7.pv] (.bool true)
 | .lit v t=>Ev.facts (nu:=nuL (List.replicate 32 (nI 0)++[nI v.1,nI v.2.1,nI v.2.2.1, .str v.2.2.2])) (args:=[litX,litX]) prog_ok (nuL_okB rfl) (okR_eq sx_lit) ⟨⟨neV_self v,rfl⟩,trivial⟩ rfl rfl
 | .col w=>Ev.facts (nu:=nuL [nI 0, .str w]) (args:=[colX,colX]) prog_ok (nuL_okB rfl) (okR_eq sx_col) ⟨fStrEq (l:=w) (m:=w) rfl rfl (show strP .neq w w=some (.bool (w != w)) from rfl) (by simp [subD]) rfl,trivial⟩ rfl rfl
 | .neg a=>Ev.facts (nu:=nuL (prNu [] [] [] [] [] [] a.e7 a.e7)) (args:=[unA 4,unA 4]) prog_ok (prNu_ok (e7_ok a) (e7_ok a)) (okR_eq (List.all_eq_true.1 sx_un 4 (by decide))) ⟨fprim (exprs_ev a) rfl rfl rfl,trivial⟩ (two_args (E7.pure (E7.un_ok (k:=4) (e7_ok a))) rfl rfl) rfl
 | .not a=>Ev.facts (nu:=nuL (prNu [] [] [] [] [] [] a.e7 a.e7)) (args:=[unA 3,unA 3]) prog_ok (prNu_ok (e7_ok a) (e7_ok a)) (okR_eq (List.all_eq_true.1 sx_un 3 (by decide))) ⟨fprim (exprs_ev a) rfl rfl rfl,trivial⟩ (two_args (E7.pure (E7.un_ok (k:=3) (e7_ok a))) rfl rfl) rfl
 | .isn a=>Ev.facts (nu:=nuL (prNu [] [] [] [] [] [] a.e7 a.e7)) (args:=[unA 5,unA 5]) prog_ok (prNu_ok (e7_ok a) (e7_ok a)) (okR_eq (List.all_eq_true.1 sx_un 5 (by decide))) ⟨fprim (exprs_ev a) rfl rfl rfl,trivial⟩ (two_args (E7.pure (E7.un_ok (k:=5) (e7_ok a))) rfl rfl) rfl
 | .op k a b=>by
  by_cases hk:k < 9
  ·have hq:opsL.getD k (0, "")∈opsL:=by
    rw [List.getD_eq_getElem?_getD,List.getElem?_eq_getElem (show k < opsL.length from hk)]
    exact List.getElem_mem _
   exact Ev.facts (nu:=nuL (prNu [] [] [] [] [] [] a.e7 b.e7)) (args:=[biA (opsL.getD k (0, "")).1,biA (opsL.getD k (0, "")).1]) prog_ok (prNu_ok (e7_ok a) (e7_ok b)) (okR_eq (List.all_eq_true.1 sx_bin _ hq)) ⟨fprim (exprs_ev a) rfl rfl rfl,fprim (exprs_ev b) rfl rfl rfl,trivial⟩
    (two_args (E7.pure (E7.bin_ok (k:=(opsL.getD k (0, "")).1) (e7_ok a) (e7_ok b))) rfl rfl) rfl
  ·have e0:opsL.getD k (0, "")=(0, ""):=by
    rw [List.getD_eq_getElem?_getD,List.getElem?_eq_none (show opsL.length≤k by show 9≤k;omega)];rfl
   have h0:okR (.bool true) (callF PG (fOrc noOwn [.prim f_r3_Exprs [eA 30,eA 30] (.bool true), .prim f_r3_Exprs [eA 60,eA 60] (.bool true)]) 10 f_r3_Exprs [biA 0,biA 0] [])=true:=by kernel_rfl
   show Ev PG f_r3_Exprs [E7.pv (E7.bin (opsL.getD k (0, "")).1 a.e7 b.e7),E7.pv (E7.bin (opsL.getD k (0, "")).1 a.e7 b.e7)] _
   rw [e0]
   exact Ev.facts (nu:=nuL (prNu [] [] [] [] [] [] a.e7 b.e7)) (args:=[biA 0,biA 0]) prog_ok (prNu_ok (e7_ok a) (e7_ok b)) (okR_eq h0) ⟨fprim (exprs_ev a) rfl rfl rfl,fprim (exprs_ev b) rfl rfl rfl,trivial⟩
    (two_args (E7.pure (E7.bin_ok (k:=0) (e7_ok a) (e7_ok b))) rfl rfl) rfl
end Go.Proofs.YtdlkibeljkapeaaGreatDoor.Den
namespace Go.Proofs.YtdlkibeljkapeaaGreatDoor.Den
open Go Go.RowKit
def on1 (b:Bool):List Fact:=[.op (.len ty_sl_l3_Raw) [.atom 0] (.atom 1),oI .eql (.atom 1) (nI 0) (.bool b)]
def on2:List Fact:=[.op (.ix ty_sl_l3_Raw) [.atom 0,nI 0] (.ref [.atom 2, .atom 3, .atom 4, .atom 5]), .prim f_l3_Raw_Make [.agg [.atom 2, .atom 3, .atom 4, .atom 5]] (eA 30)]
set_option maxRecDepth 20000 in
theorem one_k0:okR E7.zero.pv (callF PG (fOrc noOwn (on1 true)) 10 f_l3_One [.atom 0] [])=true:=by kernel_rfl
set_option maxRecDepth 20000 in
theorem one_k1:okR (eA 30) (callF PG (fOrc noOwn (on1 false++on2)) 10 f_l3_One [.atom 0] [])=true:=by kernel_rfl
def trueX:E7:=⟨nI 1, .str [],nI 1,nI 1,nI 0, .str [], .nilslice⟩
set_option maxRecDepth 20000 in
theorem some_k0:okR trueX.pv (callF PG (fOrc noOwn (on1 true)) 10 f_l3_Some [.atom 0] [])=true:=by kernel_rfl
set_option maxRecDepth 20000 in
theorem some_k1:okR (eA 30) (callF PG (fOrc noOwn (on1 false++on2)) 10 f_l3_Some [.atom 0] [])=true:=by kernel_rfl
def oneNu (nl:Nat) (l:List RawT) (r:RawT) (e:E7):List PV:=[rawsP nl l,nI l.length,nI r.k,nI r.n, .str r.s,rawsP r.nl r.l]++(List.replicate 24 (nI 0)++e.L)
set_option maxRecDepth 20000 in
theorem oneNu_ok {nl:Nat} {l:List RawT} {r:RawT} {e:E7} (he:e.ok=true):NuOk (nuL (oneNu nl l r e)):=by
 refine nuL_okB ?_
 unfold oneNu
 have h1:=raws_good nl l
 have h2:=raws_good r.nl r.l
 rw [List.all_append,List.all_append,show (e.L.all fun p=>p.clean&&p.pure)=true from he]
 simp only [List.all_cons,h1.1,h1.2.1,h2.1,h2.2.1]
 rfl
set_option maxRecDepth 20000 in
theorem raws_args {nl:Nat} {l:List RawT} {nu:Nat→PV} (h0:nu 0=rawsP nl l):([PV.atom 0].all fun p=>argB nu p&&p.shut)=true:=by
 have h1:=raws_good nl l
 show (((nu 0).pure&&(nu 0).one)&&true&&true)=true
 rw [h0,h1.2.1,h1.2.2];rfl
set_option maxRecDepth 20000 in
theorem first_none {g:FuncId} {r:PV} (hk:okR r (callF PG (fOrc noOwn (on1 true)) 10 g [.atom 0] [])=true) (hr:∀ nu:Nat→PV,subD nu r=r) (hp:(r.pure&&r.shut2)=true) {nl:Nat} {l:List RawT} (hn:nlOk nl l) (hl:l=[]):Ev PG g [rawsP nl l] r:=by
 have:=Ev.facts (nu:=nuL (oneNu nl l (.mk 0 0 [] 0 []) E7.zero)) (args:=[.atom 0]) prog_ok (oneNu_ok rfl) (okR_eq hk) ⟨⟨rawLen_ok hn,rfl⟩,fCmp (c:=true) (a:=l.length) (b:=0) rfl rfl rfl (by rw [hl];rfl) (by decide) rfl,trivial⟩ (raws_args rfl) (by rw [hr];exact hp)
 rw [hr] at this
 exact this
set_option maxRecDepth 20000 in
theorem first_some {g:FuncId} (hk:okR (eA 30) (callF PG (fOrc noOwn (on1 false++on2)) 10 g [.atom 0] [])=true) {nl:Nat} {l:List RawT} (hn:nlOk nl l) {r:RawT} (hx:l[0]? = some r) {e:Xp} (h:Ev PG f_l3_Raw_Make [r.pv] e.e7.pv):Ev PG g [rawsP nl l] e.e7.pv:=by
 have hl:l.length≠0:=by
  have:=(List.getElem?_eq_some_iff.1 hx).1
  omega
 rw [pv_eq] at h
 exact Ev.facts (nu:=nuL (oneNu nl l r e.e7)) (args:=[.atom 0]) (r:=eA 30) prog_ok (oneNu_ok (e7_ok e)) (okR_eq hk) ⟨⟨rawLen_ok hn,rfl⟩,fCmp (c:=false) (a:=l.length) (b:=0) rfl rfl rfl (by simp only [intP];simp [hl]) (by decide) rfl,⟨rawIx_ok hn hx,rfl⟩,fprim h rfl rfl rfl,trivial⟩ (raws_args rfl) (E7.ps (e7_ok e))
set_option maxRecDepth 20000 in
theorem few_k (b:Bool):callF PG (fOrc noOwn [.prim f_l3_size [.atom 0,nI 0] (.atom 1),oI .leq (.atom 1) (nI 16) (.bool b)]) 5 f_l3_Few [.atom 0] []=some (.bool b,[]):=by cases b<;>kernel_rfl
def fewB (l:List RawT):Bool:=decide (sizeM 7 l≤16)
set_option maxRecDepth 20000 in
theorem few_ev (nl:Nat) (l:List RawT) (hn:nlOk nl l) (ho:RawT.oks l):Ev PG f_l3_Few [rawsP nl l] (.bool (fewB l)):=by
 have hg:=raws_good nl l
 have hs:Ev PG f_l3_size [rawsP nl l,nI 0] (nI (sizeM 7 l)):=size_ev 7 (by decide) nl l hn ho
 refine Ev.facts prog_ok (nuL_okB (l:=[rawsP nl l,nI (sizeM 7 l)]) (by simp only [List.all_cons,hg.1,hg.2.1];rfl)) (few_k (fewB l)) ⟨fprim hs rfl rfl rfl,fCmp rfl rfl rfl rfl (by decide) rfl,trivial⟩ ?_ rfl
 show (((rawsP nl l).pure&&(rawsP nl l).one)&&true&&_)=true
 rw [hg.2.1,hg.2.2];rfl
structure XpOk (e:Xp):Prop where
 wf:e.wf
 dp:e.dpt≤12
 len:e.txt.length≤25600
set_option maxRecDepth 20000 in
theorem few_first {l:List RawT} (ho:RawT.oks l) (h:fewB l=true) {r:RawT} (hx:l[0]? = some r):∃ e,XpOk e∧Ev PG f_l3_Raw_Make [r.pv] e.e7.pv:=by
 simp only [fewB,decide_eq_true_eq] at h
 obtain ⟨d,hd,hf⟩:=sizeM_few h
 obtain rfl:d=6:=by omega
 have:=hf r (List.mem_of_getElem? hx)
 obtain ⟨e,he⟩:=make_ev 6 r (oks_get ho hx) this.1 this.2
 exact ⟨e,⟨he.wf,he.dp,by have:=he.len;omega⟩,he.ev⟩
set_option maxRecDepth 20000 in
theorem one_ev {nl:Nat} {l:List RawT} (hn:nlOk nl l) (ho:RawT.oks l) (h:fewB l=true):(l=[]∧Ev PG f_l3_One [rawsP nl l] E7.zero.pv)∨(l≠[]∧∃ e,XpOk e∧Ev PG f_l3_One [rawsP nl l] e.e7.pv):=by
 cases hx:l[0]? with
 | none =>
  have hl:l=[]:=by cases l with|nil=>rfl|cons a l=>simp at hx
  exact .inl ⟨hl,first_none one_k0 (fun _=>rfl) rfl hn hl⟩
 | some r =>
  obtain ⟨e,h1,h2⟩:=few_first ho h hx
  exact .inr ⟨by intro e;rw [e] at hx;simp at hx,e,h1,first_some one_k1 hn hx h2⟩
set_option maxRecDepth 20000 in
theorem true_ok:XpOk (.lit (1,1,0,[]) [116,114,117,101]):=by
 have hk:=lt_k
 rw [Bool.and_eq_true] at hk
 exact ⟨⟨⟨by simp,ev_closed hk.1,ev_closed hk.2,fun hs hi hg hr h=>lit_true hs hi hg hr h⟩,rfl⟩,Nat.zero_le _,by show 4≤25600;decide⟩
set_option maxRecDepth 20000 in
theorem some_ev {nl:Nat} {l:List RawT} (hn:nlOk nl l) (ho:RawT.oks l) (h:fewB l=true):∃ e,XpOk e∧Ev PG f_l3_Some [rawsP nl l] e.e7.pv:=by
 cases hx:l[0]? with
 | none =>
  have hl:l=[]:=by cases l with|nil=>rfl|cons a l=>simp at hx
  exact ⟨_,true_ok,first_none some_k0 (fun _=>rfl) rfl hn hl⟩
 | some r =>
  obtain ⟨e,h1,h2⟩:=few_first ho h hx
  exact ⟨e,h1,first_some some_k1 hn hx h2⟩
set_option maxRecDepth 20000 in
theorem end_stops (a:Nat):∀ w∈stops,isM (endSg a) (kw w)=false:=by
 intro w hw
 simp only [stops,List.mem_cons,List.not_mem_nil,or_false] at hw
 rcases hw with rfl|rfl|rfl|rfl|rfl|rfl|rfl|rfl|rfl|rfl<;>rfl
end Go.Proofs.YtdlkibeljkapeaaGreatDoor.Den
