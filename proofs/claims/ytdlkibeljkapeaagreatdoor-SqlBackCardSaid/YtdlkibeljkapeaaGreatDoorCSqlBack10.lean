-- Written by drive.py and pack.py (programs of this proof's own) through the kit's printer; not trusted: Lean checks it.
import Derived.Test.YtdlkibeljkapeaaGreatDoorCSqlBack9
import Derived.Lib.SmallJoins
import Derived.Test.YtdlkibeljkapeaaGreatDoorCSqlBack3
namespace Go.Proofs.YtdlkibeljkapeaaGreatDoor.Den
open Go Go.RowKit
def Df:List (Int × String):=[(6, "*"),(7, "+"),(8, "-"),(9, "="),(10, "<>"),(11, "<"),(12, "<="),(13, "and"),(14, "or")]
def opF (_k:Int) (m:String):List Ao :=
 [D2 (okD 1 9) "not" false,D2 (okD 40 9) "not" false, .st Jp [.box 0 0] (okD 1 9) (eA 30) (okD 20 9),Bl (okD 20 9) (okD 40 9), .st Jp [.box 0 0] (okD 40 9) (eA 60) (okD 50 9)] ++
 (stops.map fun w=>D2 (okD 20 9) w (w==m))++(stops.map fun w=>D2 (okD 50 9) w false)
theorem Ayl:(Df.all fun q=>E1 (Ew (nI q.1) (.str []) (nI 0) (nI 0) (nI 0) (.str []) (.slice 7 [eA 30,eA 60])) (okD 50 9) (Am PG (Aj An (opF q.1 q.2)) 20 M5 [.box 0 0] (okD 1 9)))=true:=by kernel_rfl
def Alm:List Ao:=[D2 (okD 1 9) "not" false, .st Jp [.box 0 0] (okD 1 9) (eA 30) (okD 20 9)]++(["*", "+", "-", "=", "<>", "<", "<="].map fun m=>D2 (okD 20 9) m false) ++
 [D2 (okD 20 9) "is" true,Bl (okD 20 9) (okD 40 9),D2 (okD 40 9) "null" true,Bl (okD 40 9) (okD 50 9),D2 (okD 50 9) "and" false,D2 (okD 50 9) "or" false]
theorem Aws:E1 (Ew (nI 5) (.str []) (nI 0) (nI 0) (nI 0) (.str []) (.slice 7 [eA 30])) (okD 50 9) (Am PG (Aj An Alm) 20 M5 [.box 0 0] (okD 1 9))=true:=by kernel_rfl
theorem Ayr:E1 (eA 30) (okD 20 9) (Am PG (Aj An (D2 (okD 1 9) "not" false::.st Jp [.box 0 0] (okD 1 9) (eA 30) (okD 20 9)::stops.map fun m=>D2 (okD 20 9) m false)) 20 Zq [.box 0 0] (okD 1 9))=true:=by kernel_rfl
theorem Ay3:E1 (Ew (nI 3) (.str []) (nI 0) (nI 0) (nI 0) (.str []) (.slice 7 [eA 30])) (okD 20 9) (Am PG (Aj An ([D2 (okD 1 9) "not" true, .st Zq [.box 0 0] (okD 10 18) (eA 30) (okD 20 18),D2 (okD 20 9) "and" false,D2 (okD 20 9) "or" false]++Zj)) 20 M5 [.box 0 0] (okD 1 9))=true:=by kernel_rfl
def E7.bin (k:Int) (a b:E7):E7:=⟨nI k, .str [],nI 0,nI 0,nI 0, .str [], .slice 7 [a.pv,b.pv]⟩
theorem E7.bin_ok {k:Int} {a b:E7} (ha:a.ok=true) (hb:b.ok=true):(E7.bin k a b).ok=true:=by
 have h1:=E7.pure ha
 have h2:=E7.pure hb
 simp only [E7.bin,E7.ok,E7.L,List.all_cons,List.all_nil,PV.clean,PV.pure,PV.pureL,h1,h2,Bool.and_self]
def Y1 (s:List UInt8) (x:Sg) (tt dp:Nat) (z:Sg) (tz:Nat) (r:E7) (y:Sg) (ty:Nat) (f:Sg) (tf:Nat) (r2:E7):List PV:=Ip s x tt dp x tt (sv z tz) r y ty++([nI 0,nI 0]++(sv f tf++[nI 0,nI 0])++r2.L)
theorem Ai1 {s:List UInt8} {x:Sg} {tt dp:Nat} {z:Sg} {tz:Nat} {r:E7} {y:Sg} {ty:Nat} {f:Sg} {tf:Nat} {r2:E7} (hr:r.ok=true) (hr2:r2.ok=true):Bc (Ab (Y1 s x tt dp z tz r y ty f tf r2)):=by
 refine Ap ?_
 unfold Y1
 rw [List.all_append,List.all_append]
 have h1:((Ip s x tt dp x tt (sv z tz) r y ty).all fun p=>p.clean&&p.pure)=true:=Al9 rfl hr rfl
 rw [h1,show (r2.L.all fun p=>p.clean&&p.pure)=true from hr2]
 rfl
section
variable {s:List UInt8} {x z y f:Sg} {tt tz ty tf dp:Nat} {r r2:E7}
theorem Ava {q:Int × String} (hq:q∈Df) (hn:Bn x (kw "not")=false) (h1:J8 s x tt dp r z tz) (hz:∀ w∈stops,Bn z (kw w)=(w==q.2)) (hy:Rd s tz y ty) (hny:Bn y (kw "not")=false) (h2:J8 s y ty dp r2 f tf) (hf:∀ w∈stops,Bn f (kw w)=false):Any s x tt dp (E7.bin q.1 r r2) f tf:=by
 obtain ⟨h1,hr⟩:=h1
 obtain ⟨h2,hr2⟩:=h2
 refine ⟨?_,E7.bin_ok hr hr2⟩
 have hpu:=E7.pure (E7.bin_ok (k:=q.1) hr hr2)
 refine EvS.facts (nu:=Ab (Y1 s x tt dp z tz r y ty f tf r2)) (args:=[.box 0 0]) (s:=okD 1 9) (s':=okD 50 9) (r:=Ew (nI q.1) (.str []) (nI 0) (nI 0) (nI 0) (.str []) (.slice 7 [eA 30,eA 60])) Af (Ai1 hr hr2) (Dt (List.all_eq_true.1 Ayl q hq)) ?_ rfl rfl (by rw [Bool.and_eq_true];exact ⟨hpu,rfl⟩)
 unfold opF
 rw [List.append_assoc]
 refine Ah.append ⟨C6 rfl hn rfl,C6 rfl hny rfl,Aw h1 rfl rfl rfl rfl rfl,Aw (A8 z dp hy) rfl rfl rfl rfl rfl,Aw h2 rfl rfl rfl rfl rfl,trivial⟩ (Ah.append (Ah.of fun g hg=>?_) (Ah.of fun g hg=>?_))
 ·obtain ⟨m,hm,rfl⟩:=List.mem_map.1 hg
  exact C6 rfl (hz m hm) rfl
 ·obtain ⟨m,hm,rfl⟩:=List.mem_map.1 hg
  exact C6 rfl (hf m hm) rfl
end
open Go Go.RowKit
section
variable {s:List UInt8} {x z y f:Sg} {tt tu tz ty tf dp:Nat} {r:E7}
theorem Atf (hn:Bn x (kw "not")=false) (h1:J8 s x tt dp r z tz) (hz:∀ m∈["*", "+", "-", "=", "<>", "<", "<="],Bn z (kw m)=false) (hi:Bn z (kw "is")=true) (hy:Rd s tz y ty) (hy2:Bn y (kw "null")=true) (hf:Rd s ty f tf) (e1:Bn f (kw "and")=false) (e2:Bn f (kw "or")=false):Any s x tt dp (E7.un 5 r) f tf:=by
 obtain ⟨h1,hr⟩:=h1
 refine ⟨?_,E7.un_ok hr⟩
 have hpu:=E7.pure (E7.un_ok (k:=5) hr)
 refine EvS.facts (nu:=Ab (Y1 s x tt dp z tz r y ty f tf E7.zero)) (args:=[.box 0 0]) (s:=okD 1 9) (s':=okD 50 9) (r:=Ew (nI 5) (.str []) (nI 0) (nI 0) (nI 0) (.str []) (.slice 7 [eA 30])) Af (Ai1 hr rfl) (Dt Aws) ?_ rfl rfl (by rw [Bool.and_eq_true];exact ⟨hpu,rfl⟩)
 unfold Alm
 rw [List.append_assoc]
 refine Ah.append ⟨C6 rfl hn rfl,Aw h1 rfl rfl rfl rfl rfl,trivial⟩ (Ah.append (Ah.of fun g hg=>?_) ⟨C6 rfl hi rfl,Aw (A8 z dp hy) rfl rfl rfl rfl rfl,C6 rfl hy2 rfl,Aw (A8 y dp hf) rfl rfl rfl rfl rfl,C6 rfl e1 rfl,C6 rfl e2 rfl,trivial⟩)
 obtain ⟨m,hm,rfl⟩:=List.mem_map.1 hg
 exact C6 rfl (hz m hm) rfl
def Not (s:List UInt8) (x:Sg) (tt dp:Nat) (r:E7) (z:Sg) (tz:Nat):Prop:=EvS PG Zq [.box 0 0] (Db s x tt dp) r.pv (Db s z tz dp)∧r.ok=true
theorem Asx (hn:Bn x (kw "not")=false) (h:J8 s x tt dp r z tz) (hz:∀ m∈stops,Bn z (kw m)=false):Not s x tt dp r z tz:=by
 obtain ⟨h,hr⟩:=h
 refine ⟨?_,hr⟩
 have hpu:=E7.pure hr
 have hnu:Bc (Ab (Ip s x tt dp x tt (sv z tz) r x tt)):=Qz rfl hr
 refine EvS.facts (nu:=Ab (Ip s x tt dp x tt (sv z tz) r x tt)) (args:=[.box 0 0]) (s:=okD 1 9) (s':=okD 20 9) Af hnu (Dt Ayr) ⟨C6 rfl hn rfl,Aw h rfl rfl rfl rfl rfl,Ah.of fun f hf=>?_⟩ rfl rfl (by rw [Bool.and_eq_true];exact ⟨hpu,rfl⟩)
 obtain ⟨m,hm,rfl⟩:=List.mem_map.1 hf
 exact C6 rfl (hz m hm) rfl
theorem As3 (hn:Bn x (kw "not")=true) (hd:dp < 12) (hy:Rd s tt y tu) (h:Not s y tu (dp+1) r z tz) (e1:Bn z (kw "and")=false) (e2:Bn z (kw "or")=false):Any s x tt dp (E7.un 3 r) z tz:=by
 obtain ⟨h,hr⟩:=h
 refine ⟨?_,E7.un_ok hr⟩
 have hpu:=E7.pure (E7.un_ok (k:=3) hr)
 have hnu:Bc (Ab (Ip s x tt dp y tu (sv z tz) r x tt)):=Qz rfl hr
 exact EvS.facts (nu:=Ab (Ip s x tt dp y tu (sv z tz) r x tt)) (args:=[.box 0 0]) (s:=okD 1 9) (s':=okD 20 9) Af hnu (Dt Ay3)
  (Ah.append ⟨C6 rfl hn rfl,Aw h rfl rfl rfl rfl rfl,C6 rfl e1 rfl,C6 rfl e2 rfl,trivial⟩ (Add rfl rfl hd rfl rfl hy)) rfl rfl (by rw [Bool.and_eq_true];exact ⟨hpu,rfl⟩)
theorem Azs:E1 (Al8 20) (okD 10 9) (Am PG (Aj An [.st I7 [.box 0 0] (okD 1 9) (K7 20) (okD 10 9)]) 20 Jp [.box 0 0] (okD 1 9))=true:=by kernel_rfl
theorem Asv {v:V4} (h:Lx s x tt dp v z tz):J8 s x tt dp (E7.lit v) z tz:=by
 refine ⟨?_,by rfl⟩
 exact EvS.facts (nu:=Ab (P4 s x tt dp z tz v z tz)) (args:=[.box 0 0]) (s:=okD 1 9) (s':=okD 10 9) (r:=Al8 20) Af (Ap rfl) (Dt Azs) ⟨Aw h rfl rfl rfl rfl rfl,trivial⟩ rfl rfl rfl
end
open Go Go.RowKit
inductive Xp where
 | lit (v:V4) (t:List UInt8)
 | col (w:List UInt8)
 | neg (a:Xp)
 | not (a:Xp)
 | isn (a:Xp)
 | op (i:Nat) (a b:Xp)
def Ek (i:Nat):List UInt8:=kw (Df.getD i (0, "")).2
def Xp.leaf:Xp→Bool
 | .lit _ _ | .col _=>true
 | _=>false
def G8 (b:Bool) (t:List UInt8):List UInt8:=match b with|true=>t|false=>[40]++t++[41]
def Xp.txt:Xp→List UInt8
 | .lit _ t=>t
 | .col w=>w
 | .neg a=>[45,40]++a.txt++[41]
 | .not a=>[110,111,116,32]++G8 a.leaf a.txt
 | .isn a=>G8 a.leaf a.txt++Im
 | .op i a b=>G8 a.leaf a.txt++[32]++Ek i++[32]++G8 b.leaf b.txt
def Xp.inn (a:Xp):List UInt8:=G8 a.leaf a.txt
def Xp.e7:Xp→E7
 | .lit v _=>E7.lit v
 | .col w=>E7.col w
 | .neg a=>E7.un 4 a.e7
 | .not a=>E7.un 3 a.e7
 | .isn a=>E7.un 5 a.e7
 | .op i a b=>E7.bin (Df.getD i (0, "")).1 a.e7 b.e7
def Is (b:Bool) (n:Nat):Nat:=match b with|true=>0|false=>n+1
def Xp.dpt:Xp→Nat
 | .lit _ _ | .col _=>0
 | .neg a=>a.dpt+2
 | .not a=>Is a.leaf a.dpt+1
 | .isn a=>Is a.leaf a.dpt
 | .op _ a b=>max (Is a.leaf a.dpt) (Is b.leaf b.dpt)
def Iq (g:List UInt8):Prop:=∃ r,g=32::r∧r.all Bf=true
theorem Iq.one:Iq [32]:=⟨[],rfl,rfl⟩
def Rn (b:Bool) (P:List UInt8→Prop) (x:List UInt8):Prop:=match b with|true=>P x|false=>∃ u,P u∧x=[40]++u++[41]
def Xp.wr:Xp→List UInt8→Prop
 | .lit _ t,x=>x=t
 | .col w,x=>x=w
 | .neg a,x=>∃ u,a.wr u∧x=[45,40]++u++[41]
 | .not a,x=>∃ g u,Iq g∧Rn a.leaf a.wr u∧x=[110,111,116]++g++u
 | .isn a,x=>∃ u g1 g2,Iq g1∧Iq g2∧Rn a.leaf a.wr u∧x=u++g1++[105,115]++g2++[110,117,108,108]
 | .op i a b,x=>∃ u g1 g2 v,Iq g1∧Iq g2∧Rn a.leaf a.wr u∧Rn b.leaf b.wr v∧x=u++g1++Ek i++g2++v
theorem Xa {b:Bool} {P:List UInt8→Prop} {x:List UInt8} (h:P x):Rn b P (G8 b x):=by
 cases b with
 | true=>exact h
 | false=>exact ⟨x,h,rfl⟩
theorem Xp.wr_txt:∀ e:Xp,e.wr e.txt
 | .lit _ _=>rfl
 | .col _=>rfl
 | .neg a=>⟨_,a.wr_txt,rfl⟩
 | .not a=>⟨[32],_,Iq.one,Xa a.wr_txt,rfl⟩
 | .isn a=>⟨_,[32],[32],Iq.one,Iq.one,Xa a.wr_txt,by simp [Xp.txt,Im]⟩
 | .op i a b=>⟨_,[32],[32],_,Iq.one,Iq.one,Xa a.wr_txt,Xa b.wr_txt,rfl⟩
open Go Go.RowKit
def Xp.wf:Xp→Prop
 | .lit v t=>Ie v t∧Hk t
 | .col w=>∃ c r,w=c::r∧Hg c=true∧r.all Fo=true∧r.length≤11∧Bq.contains w=false
 | .neg a | .not a | .isn a=>a.wf
 | .op i a b=>i < 9∧a.wf∧b.wf
def Rk (s:List UInt8) (i j dp:Nat) (r:E7):Prop:=∃ y tu,Rd s i y tu∧Bn y (kw "not")=false∧∀ z tz,Rd s j z tz→J8 s y tu dp r z tz
def U5 (s:List UInt8) (i j dp:Nat) (r:E7):Prop:=∃ y tu,Rd s i y tu∧∀ z tz,Rd s j z tz→(∀ w∈stops,Bn z (kw w)=false)→Any s y tu dp r z tz
section
variable {s:List UInt8} (hs:s.length≤4000)
include hs
theorem Akj {v:V4} {t:List UInt8} (h:Ie v t) {i dp:Nat} {g rest:List UInt8} (hi:i≤s.length) (hg:g.all Bf=true) (hr:Gu rest=true) (hd:s.drop i=g++(t++rest)):Rk s i (i+g.length+t.length) dp (E7.lit v):=by
 obtain ⟨y,tu,hy,hn,hc⟩:=h.rd hs hi hg hr hd
 exact ⟨y,tu,hy,hn,fun z tz hz=>Asv (hc dp z tz hz)⟩
theorem Akn {c:UInt8} {r:List UInt8} (hc:Hg c=true) (hr':r.all Fo=true) (hl:r.length≤11) (hk:Bq.contains (c::r)=false) {i dp:Nat} {g rest:List UInt8} (hi:i≤s.length) (hg:g.all Bf=true) (hr:Gu rest=true) (hd:s.drop i=g++((c::r)++rest)) :
  Rk s i (i+g.length+(c::r).length) dp (E7.col (c::r)):=by
 obtain ⟨h1,_,_,h4⟩:=M9 hr
 have hrd:=Ky (s:=s) (by omega) hi hd hg hc hr' h1 (fun _ _=>h4) hl
 have e:Eq (c::r) (i+g.length)=⟨2,(i+g.length:Nat),c::r,v0,0⟩:=by
  unfold Eq
  rw [hk];rfl
 rw [e] at hrd
 have hm:∀ m,Bn ⟨2,(i+g.length:Nat),c::r,v0,0⟩ m=false:=fun m=>rfl
 exact ⟨_,_,hrd,hm _,fun z tz hz=>Arj ⟨show (2:Int)≠4 by decide,show (2:Int)≠3 by decide,hm _,hm _,hm _,fun h=>by cases h⟩ (hm _) (hm _) rfl hz⟩
theorem Avf {r:E7} {i j dp:Nat} {g:List UInt8} {rest:List UInt8} (hi:i≤s.length) (hg:g.all Bf=true) (hd:s.drop i=g++(Be 2++rest)) (hdp:dp < 12) (hj:j≤s.length) {rest2:List UInt8} (hd2:s.drop j=Be 3++rest2) (h:U5 s (i+g.length+1) j (dp+1) r):Rk s i (j+1) dp r:=by
 have r0:=H9 (s:=s) (by omega) hi 2 (by decide) (by decide) hd hg
 obtain ⟨y,tu,hy,ha⟩:=h
 have r1:=H9 (s:=s) (g:=[]) (by omega) hj 3 (by decide) (by decide) (by rw [List.nil_append];exact hd2) rfl
 refine ⟨_,_,r0,rfl,fun z tz hz=>Aja ⟨show (5:Int)≠4 by decide,show (5:Int)≠3 by decide,rfl,rfl,rfl,fun h=>by cases h⟩ rfl rfl hdp hy (ha _ _ r1 (fun w hw=>?_)) rfl hz⟩
 simp only [stops,List.mem_cons,List.not_mem_nil,or_false] at hw
 rcases hw with rfl|rfl|rfl|rfl|rfl|rfl|rfl|rfl|rfl|rfl<;>rfl
end
open Go Go.RowKit
theorem Ayd (a:Nat):Eq (97::[110,100]) a=⟨1,a,kw "and", v0,0⟩:=by
 have:Bq.contains (97::[110,100])=true:=by kernel_rfl
 unfold Eq
 rw [this];rfl
theorem Ays (a:Nat):Eq (111::[114]) a=⟨1,a,kw "or", v0,0⟩:=by
 have:Bq.contains (111::[114])=true:=by kernel_rfl
 unfold Eq
 rw [this];rfl
section
variable {s:List UInt8} (hs:s.length≤4000)
include hs
theorem Atn {j i:Nat} (hi:i < 9) {g rest:List UInt8} (hg:g.all Bf=true) (hj:j≤s.length) (hd:s.drop j=g++(Ek i++(32::rest))):∃ z,Rd s j z (j+g.length+(Ek i).length)∧∀ w∈stops,Bn z (kw w)=(w==(Df.getD i (0, "")).2):=by
 have hmk:∀ (k a:Nat) (m:String),(stops.all fun w=>(Be k==kw w)==(w==m))=true→∀ w∈stops,Bn (D4 k a) (kw w)=(w==m):=fun k a m h w hw=>by
  have:=List.all_eq_true.1 h w hw
  rw [beq_iff_eq] at this
  exact this
 match i,hi,hd with
 | 0,_,hd=>exact ⟨_,H9 (s:=s) (by omega) hj 10 (by decide) (by decide) hd hg,hmk _ _ _ (by decide)⟩
 | 1,_,hd=>exact ⟨_,H9 (s:=s) (by omega) hj 8 (by decide) (by decide) hd hg,hmk _ _ _ (by decide)⟩
 | 2,_,hd=>exact ⟨_,H9 (s:=s) (by omega) hj 9 (by decide) (by decide) hd hg,hmk _ _ _ (by decide)⟩
 | 3,_,hd=>exact ⟨_,H9 (s:=s) (by omega) hj 6 (by decide) (by decide) hd hg,hmk _ _ _ (by decide)⟩
 | 4,_,hd=>exact ⟨_,H9 (s:=s) (by omega) hj 0 (by decide) (by decide) hd hg,hmk _ _ _ (by decide)⟩
 | 5,_,hd =>
  refine ⟨_,Ais (s:=s) (by omega) hj 7 (by decide) hd hg (fun j hj=>?_),hmk _ _ _ (by decide)⟩
  match j,hj with
  | 0,_|1,_|2,_|3,_|4,_|5,_|6,_|7,_=>rfl
 | 6,_,hd=>exact ⟨_,H9 (s:=s) (by omega) hj 1 (by decide) (by decide) hd hg,hmk _ _ _ (by decide)⟩
 | 7,_,hd =>
  have h:=Ky (s:=s) (by omega) hj (c:=97) (w:=[110,100]) hd hg rfl rfl rfl (fun h=>absurd h (by decide)) (by decide)
  rw [Ayd] at h
  exact ⟨_,h,fun w hw=>by
   simp only [stops,List.mem_cons,List.not_mem_nil,or_false] at hw
   rcases hw with rfl|rfl|rfl|rfl|rfl|rfl|rfl|rfl|rfl|rfl<;>rfl⟩
 | 8,_,hd =>
  have h:=Ky (s:=s) (by omega) hj (c:=111) (w:=[114]) hd hg rfl rfl rfl (fun h=>absurd h (by decide)) (by decide)
  rw [Ays] at h
  exact ⟨_,h,fun w hw=>by
   simp only [stops,List.mem_cons,List.not_mem_nil,or_false] at hw
   rcases hw with rfl|rfl|rfl|rfl|rfl|rfl|rfl|rfl|rfl|rfl<;>rfl⟩
end
open Go Go.RowKit
theorem Axe (a:Nat):Eq (110::[111,116]) a=⟨1,a,kw "not", v0,0⟩:=by
 have:Bq.contains (110::[111,116])=true:=by kernel_rfl
 unfold Eq
 rw [this];rfl
section
variable {s:List UInt8} (hs:s.length≤4000)
include hs
theorem Wq (e:Xp) (hw:e.wf) (ih:∀ {t:List UInt8},e.wr t→∀ {i dp:Nat} {g rest:List UInt8},i≤s.length→g.all Bf=true→Gu rest=true→s.drop i=g++(t++rest)→dp+e.dpt≤12→U5 s i (i+g.length+t.length) dp e.e7)
  {t:List UInt8} (ht:Rn e.leaf e.wr t) {i dp:Nat} {g rest:List UInt8} (hi:i≤s.length) (hg:g.all Bf=true) (hr:Gu rest=true) (hd:s.drop i=g++(t++rest)) (hdp:dp+Is e.leaf e.dpt≤12):Rk s i (i+g.length+t.length) dp e.e7:=by
 have non:e.leaf=false→Rk s i (i+g.length+t.length) dp e.e7:=fun hl=>by
  rw [hl] at ht hdp
  obtain ⟨u,hu,rfl⟩:=ht
  have hd0:s.drop i=g++(Be 2++(u++(41::rest))):=by
   rw [hd]
   show g++([40]++u++[41]++rest)=g++([40]++(u++(41::rest)))
   simp
  have hd1:s.drop (i+g.length+1)=[]++(u++(41::rest)):=by
   have:=B6 (g:=Be 2) (B6 hd0)
   rw [List.nil_append];exact this
  have hdp':dp+(e.dpt+1)≤12:=hdp
  have hlen:i+g.length+1+(u.length+(1+rest.length))=s.length∨s.length < i+g.length+1:=by
   have:=congrArg List.length hd1
   simp only [List.length_drop,List.length_append,List.length_nil,List.length_cons] at this
   omega
  have hil:=(D7 (show s.drop (i+g.length)=40::(u++(41::rest)) from B6 hd0)).1
  have ha:=ih hu (i:=i+g.length+1) (dp:=dp+1) (g:=[]) (rest:=41::rest) (by omega) rfl rfl hd1 (by omega)
  have hd2:s.drop (i+g.length+1+([]:List UInt8).length+u.length)=Be 3++rest:=B6 (g:=u) (B6 hd1)
  have h:=Avf hs hi hg hd0 (by omega) (by simp only [List.length_nil];omega) hd2 ha
  have el:i+g.length+([40]++u++[41]).length=i+g.length+1+([]:List UInt8).length+u.length+1:=by
   simp;omega
  rw [el]
  exact h
 match e,hw,ht,non with
 | .lit v t',hw,ht,_ =>
  obtain rfl:t=t':=ht
  exact Akj hs hw.1 hi hg hr hd
 | .col w,hw,ht,_ =>
  obtain rfl:t=w:=ht
  obtain ⟨c,r,rfl,h1,h2,h3,h4⟩:=hw
  exact Akn hs h1 h2 h3 h4 hi hg hr hd
 | .neg a,_,_,non=>exact non rfl
 | .not a,_,_,non=>exact non rfl
 | .isn a,_,_,non=>exact non rfl
 | .op k a b,_,_,non=>exact non rfl
end
open Go Go.RowKit
section
variable {s:List UInt8} (hs:s.length≤4000)
include hs
omit hs in
theorem Agi {i j dp:Nat} {r:E7} (h:Rk s i j dp r):U5 s i j dp r:=by
 obtain ⟨y,tu,hy,hn,h⟩:=h
 exact ⟨y,tu,hy,fun z tz hz hst=>Ajh hn (h z tz hz) hst⟩
theorem Q2:∀ (e:Xp),e.wf→∀ {t:List UInt8},e.wr t→∀ {i dp:Nat} {g rest:List UInt8},i≤s.length→g.all Bf=true→Gu rest=true→s.drop i=g++(t++rest)→dp+e.dpt≤12→U5 s i (i+g.length+t.length) dp e.e7
 | .lit v t',hw,t,ht,i,dp,g,rest,hi,hg,hr,hd,_=>by
  obtain rfl:t=t':=ht
  exact Agi (Akj hs hw.1 hi hg hr hd)
 | .col w,hw,t,ht,i,dp,g,rest,hi,hg,hr,hd,_=>by
  obtain rfl:t=w:=ht
  obtain ⟨c,r,rfl,h1,h2,h3,h4⟩:=hw
  exact Agi (Akn hs h1 h2 h3 h4 hi hg hr hd)
 | .neg a,hw,t,ht,i,dp,g,rest,hi,hg,hr,hd,hdp=>by
  obtain ⟨u,hu,rfl⟩:=ht
  have hdp':dp+(a.dpt+2)≤12:=hdp
  have hd0:s.drop i=g++(Be 9++(Be 2++(u++(41::rest)))):=by
   rw [hd]
   show g++([45,40]++u++[41]++rest)=g++([45]++([40]++(u++(41::rest))))
   simp
  have r0:=H9 (s:=s) (by omega) hi 9 (by decide) (by decide) hd0 hg
  have hd1:s.drop (i+g.length+1)=[]++(Be 2++(u++(41::rest))):=by
   have:=B6 (g:=Be 9) (B6 hd0)
   rw [List.nil_append];exact this
  have hil:=(D7 (show s.drop (i+g.length+1)=40::(u++(41::rest)) from hd1)).1
  have r1:=H9 (s:=s) (by omega) (by omega) 2 (by decide) (by decide) hd1 rfl
  have hd2:s.drop (i+g.length+1+([]:List UInt8).length+1)=[]++(u++(41::rest)):=by
   have:=B6 (g:=Be 2) (B6 hd1)
   rw [List.nil_append];exact this
  obtain ⟨y,tu,hy,ha⟩:=Q2 a hw hu (i:=i+g.length+1+([]:List UInt8).length+1) (dp:=dp+2) (g:=[]) (rest:=41::rest) (by simp only [List.length_nil];omega) rfl rfl hd2 (by omega)
  have hd3:s.drop (i+g.length+1+([]:List UInt8).length+1+([]:List UInt8).length+u.length)=[]++(Be 3++rest):=B6 (g:=u) (B6 hd2)
  have hil3:=(D7 (show s.drop (i+g.length+1+([]:List UInt8).length+1+([]:List UInt8).length+u.length)=41::rest from hd3)).1
  have r3:=H9 (s:=s) (by omega) (by omega) 3 (by decide) (by decide) hd3 rfl
  have el:i+g.length+([45,40]++u++[41]).length=i+g.length+1+([]:List UInt8).length+1+([]:List UInt8).length+u.length+([]:List UInt8).length+1:=by
   simp;omega
  rw [el]
  refine ⟨_,_,r0,fun z tz hz hst=>Ajh rfl (Aso ⟨show (5:Int)≠4 by decide,show (5:Int)≠3 by decide,rfl,rfl,rfl,fun _=>⟨_,_,r1,show (5:Int)≠3 by decide⟩⟩ rfl rfl (by omega) r1
   (Aja ⟨show (5:Int)≠4 by decide,show (5:Int)≠3 by decide,rfl,rfl,rfl,fun h=>by cases h⟩ rfl rfl (by omega) hy (ha _ _ r3 (fun w hw=>?_)) rfl hz)) hst⟩
  simp only [stops,List.mem_cons,List.not_mem_nil,or_false] at hw
  rcases hw with rfl|rfl|rfl|rfl|rfl|rfl|rfl|rfl|rfl|rfl<;>rfl
 | .not a,hw,t,ht,i,dp,g,rest,hi,hg,hr,hd,hdp=>by
  obtain ⟨g1,u,⟨r,rfl,hg1⟩,hu,rfl⟩:=ht
  have hdp':dp+(Is a.leaf a.dpt+1)≤12:=hdp
  have hd0:s.drop i=g++((110::[111,116])++((32::r)++(u++rest))):=by
   rw [hd];simp
  have r0:=Ky (s:=s) (by omega) hi hd0 hg rfl rfl rfl (fun h=>absurd h (by decide)) (by decide)
  rw [Axe] at r0
  have hd1:=B6 (g:=110::[111,116]) (B6 hd0)
  have hil:=(D7 (show s.drop (i+g.length+3)=32::(r++(u++rest)) from hd1)).1
  obtain ⟨y,tu,hy,hn,h⟩:=Wq hs a hw (fun hu=>Q2 a hw hu) hu (i:=i+g.length+3) (dp:=dp+1) (g:=32::r) (by omega) (by simpa [Bf] using hg1) hr hd1 (by omega)
  have el:i+g.length+([110,111,116]++(32::r)++u).length=i+g.length+3+(32::r).length+u.length:=by
   simp;omega
  rw [el]
  exact ⟨_,_,r0,fun z tz hz hst=>As3 rfl (by omega) hy (Asx hn (h z tz hz) hst) (hst "and" (by decide)) (hst "or" (by decide))⟩
 | .isn a,hw,t,ht,i,dp,g,rest,hi,hg,hr,hd,hdp=>by
  obtain ⟨u,g1,g2,⟨p,rfl,hp⟩,⟨q,rfl,hq⟩,hu,rfl⟩:=ht
  have hp':(32::p).all Bf=true:=by simpa [Bf] using hp
  have hq':(32::q).all Bf=true:=by simpa [Bf] using hq
  have hd0:s.drop i=g++(u++((32::p)++((105::[115])++((32::q)++((110::[117,108,108])++rest))))):=by
   rw [hd];simp
  obtain ⟨y,tu,hy,hn,h⟩:=Wq hs a hw (fun hu=>Q2 a hw hu) hu hi hg rfl hd0 hdp
  have hd1:=B6 (g:=u) (B6 hd0)
  have hil:=(D7 (show s.drop (i+g.length+u.length)=32::_ from hd1)).1
  have r2:=Ky (s:=s) (by omega) (by omega) hd1 hp' rfl rfl rfl (fun h=>absurd h (by decide)) (by decide)
  rw [A0j] at r2
  have hd2:=B6 (g:=105::[115]) (B6 hd1)
  have hil2:=(D7 (show s.drop (i+g.length+u.length+(32::p).length+2)=32::_ from hd2)).1
  have r3:=Ky (s:=s) (i:=i+g.length+u.length+(32::p).length+2) (by omega) (by omega) hd2 hq' rfl rfl (M9 hr).1 (fun h=>absurd h (by decide)) (by decide)
  rw [Au4] at r3
  have el:i+g.length+(u++(32::p)++[105,115]++(32::q)++[110,117,108,108]).length=i+g.length+u.length+(32::p).length+2+(32::q).length+4:=by
   simp;omega
  rw [el]
  refine ⟨y,tu,hy,fun z tz hz hst=>Atf hn (h _ _ r2) (fun m hm=>?_) rfl r3 rfl hz (hst "and" (by decide)) (hst "or" (by decide))⟩
  simp only [List.mem_cons,List.not_mem_nil,or_false] at hm
  rcases hm with rfl|rfl|rfl|rfl|rfl|rfl|rfl<;>rfl
 | .op k a b,hw,t,ht,i,dp,g,rest,hi,hg,hr,hd,hdp=>by
  obtain ⟨u,g1,g2,v,⟨p,rfl,hp⟩,⟨q,rfl,hq⟩,hu,hv,rfl⟩:=ht
  have hp':(32::p).all Bf=true:=by simpa [Bf] using hp
  have hq':(32::q).all Bf=true:=by simpa [Bf] using hq
  have hdp':dp+max (Is a.leaf a.dpt) (Is b.leaf b.dpt)≤12:=hdp
  obtain ⟨hk,hwa,hwb⟩:=hw
  have hd0:s.drop i=g++(u++((32::p)++(Ek k++(32::(q++(v++rest)))))):=by
   rw [hd];simp
  obtain ⟨y,tu,hy,hn,h⟩:=Wq hs a hwa (fun hu=>Q2 a hwa hu) hu (dp:=dp) hi hg rfl hd0 (by omega)
  have hd1:=B6 (g:=u) (B6 hd0)
  have hil:=(D7 (show s.drop (i+g.length+u.length)=32::_ from hd1)).1
  obtain ⟨z1,r1,hz1⟩:=Atn hs hk hp' (by omega) hd1
  have hd2:s.drop (i+g.length+u.length+(32::p).length+(Ek k).length)=(32::q)++(v++rest):=B6 (g:=Ek k) (B6 (g:=32::p) hd1)
  have hil2:=(D7 (show s.drop (i+g.length+u.length+(32::p).length+(Ek k).length)=32::_ from hd2)).1
  obtain ⟨y2,tu2,hy2,hn2,h2⟩:=Wq hs b hwb (fun hu=>Q2 b hwb hu) hv (i:=i+g.length+u.length+(32::p).length+(Ek k).length) (dp:=dp) (g:=32::q) (by omega) hq' hr hd2 (by omega)
  have el:i+g.length+(u++(32::p)++Ek k++(32::q)++v).length=i+g.length+u.length+(32::p).length+(Ek k).length+(32::q).length+v.length:=by
   simp;omega
  rw [el]
  have hq:Df.getD k (0, "")∈Df:=by
   rw [List.getD_eq_getElem?_getD,List.getElem?_eq_getElem (show k < Df.length from hk)]
   exact List.getElem_mem _
  exact ⟨y,tu,hy,fun z tz hz hst=>Ava hq hn (h _ _ r1) hz1 hy2 hn2 (h2 z tz hz) hst⟩
end
open Go Go.RowKit
open Go Go.RowKit
abbrev sA (x y r:PV):Ao:=.op (.bin .add Ar) [x,y] r
def F7 (k:Int):PV:=Ew (nI k) (.str []) (nI 0) (nI 0) (nI 0) (.str []) (.slice 7 [eA 30])
def I5 (k:Int):PV:=Ew (nI k) (.str []) (nI 0) (nI 0) (nI 0) (.str []) (.slice 7 [eA 30,eA 60])
theorem Avk:A0 (.atom 3) (Am PG (Aj An [.prim Hl [eA 30] (.atom 1),sA (.str [45,40]) (.atom 1) (.atom 2),sA (.atom 2) (.str [41]) (.atom 3)]) 10 Hl [F7 4] [])=true:=by kernel_rfl
theorem Au8:A0 (.atom 2) (Am PG (Aj An [.prim Og [eA 30] (.atom 1),sA (.str [110,111,116,32]) (.atom 1) (.atom 2)]) 10 Hl [F7 3] [])=true:=by kernel_rfl
theorem Avg:A0 (.atom 2) (Am PG (Aj An [.prim Og [eA 30] (.atom 1),sA (.atom 1) (.str Im) (.atom 2)]) 10 Hl [F7 5] [])=true:=by kernel_rfl
def peF (w:String):List Ao:=[.prim Og [eA 30] (.atom 1), .prim Og [eA 60] (.atom 2),sA (.atom 1) (.str [32]) (.atom 3),sA (.atom 3) (.str (kw w)) (.atom 4),sA (.atom 4) (.str [32]) (.atom 5),sA (.atom 5) (.atom 2) (.atom 6)]
theorem Axz:(Df.all fun q=>A0 (.atom 6) (Am PG (Aj An (peF q.2)) 10 Hl [I5 q.1] []))=true:=by kernel_rfl
theorem Avl:A0 (.atom 3) (Am PG (Aj An [.prim Hw [eA 30] (.atom 1),sA (.str [45,40]) (.atom 1) (.atom 2),sA (.atom 2) (.str [41]) (.atom 3)]) 10 Hw [F7 4] [])=true:=by kernel_rfl
theorem Aud:A0 (.atom 2) (Am PG (Aj An [.prim Ol [eA 30] (.atom 1),sA (.str [110,111,116,32]) (.atom 1) (.atom 2)]) 10 Hw [F7 3] [])=true:=by kernel_rfl
theorem Au0:A0 (.atom 2) (Am PG (Aj An [.prim Ol [eA 30] (.atom 1),sA (.atom 1) (.str Im) (.atom 2)]) 10 Hw [F7 5] [])=true:=by kernel_rfl
def reF (w:String):List Ao:=[.prim Ol [eA 30] (.atom 1), .prim Ol [eA 60] (.atom 2),sA (.atom 1) (.str [32]) (.atom 3),sA (.atom 3) (.str (kw w)) (.atom 4),sA (.atom 4) (.str [32]) (.atom 5),sA (.atom 5) (.atom 2) (.atom 6)]
theorem Awc:(Df.all fun q=>A0 (.atom 6) (Am PG (Aj An (reF q.2)) 10 Hw [I5 q.1] []))=true:=by kernel_rfl
def Pm:List Int:=[3,4,5,6,7,8,9,10,11,12,13,14]
def xK (k:Int):PV:=Ew (nI k) (.atom 31) (.atom 32) (.atom 33) (.atom 34) (.atom 35) (.atom 36)
theorem Ayp:(Pm.all fun k=>A0 (.atom 3) (Am PG (Aj An [.prim Hl [xK k] (.atom 1),sA (.str [40]) (.atom 1) (.atom 2),sA (.atom 2) (.str [41]) (.atom 3)]) 10 Og [xK k] []))=true:=by kernel_rfl
theorem Azu:(Pm.all fun k=>A0 (.atom 3) (Am PG (Aj An [.prim Hw [xK k] (.atom 1),sA (.str [40]) (.atom 1) (.atom 2),sA (.atom 2) (.str [41]) (.atom 3)]) 10 Ol [xK k] []))=true:=by kernel_rfl
theorem Az4:([1,2].all fun k=>A0 (.atom 1) (Am PG (Aj An [.prim Hl [xK k] (.atom 1)]) 10 Og [xK k] []))=true:=by kernel_rfl
theorem Ay6:([1,2].all fun k=>A0 (.atom 1) (Am PG (Aj An [.prim Hw [xK k] (.atom 1)]) 10 Ol [xK k] []))=true:=by kernel_rfl
theorem Axp:A0 (.atom 1) (Am PG (Aj An [.prim G2 [.agg [.atom 32, .atom 33, .atom 34, .atom 35]] (.atom 1)]) 10 Hl [Ew (nI 1) (.str []) (.atom 32) (.atom 33) (.atom 34) (.atom 35) .nilslice] [])=true:=by kernel_rfl
theorem Az0:A0 (.atom 1) (Am PG (Aj An [.prim Eg [.agg [.atom 32, .atom 33, .atom 34, .atom 35]] (.atom 1)]) 10 Hw [Ew (nI 1) (.str []) (.atom 32) (.atom 33) (.atom 34) (.atom 35) .nilslice] [])=true:=by kernel_rfl
theorem Azz:A0 (.atom 1) (Am PG (Aj An []) 10 Hl [Ew (nI 2) (.atom 1) (nI 0) (nI 0) (nI 0) (.str []) .nilslice] [])=true:=by kernel_rfl
theorem Ay9:A0 (.atom 1) (Am PG (Aj An []) 10 Hw [Ew (nI 2) (.atom 1) (nI 0) (nI 0) (nI 0) (.str []) .nilslice] [])=true:=by kernel_rfl
open Go Go.RowKit
theorem Bg:∀ (e:Xp),e.e7.ok=true
 | .lit _ _=>rfl
 | .col _=>rfl
 | .neg a=>E7.un_ok (Bg a)
 | .not a=>E7.un_ok (Bg a)
 | .isn a=>E7.un_ok (Bg a)
 | .op _ a b=>E7.bin_ok (Bg a) (Bg b)
def Yv (t:List UInt8) (r:E7):List PV:=([nI 0, .str t, .str ([40]++t), .str ([40]++t++[41])]++List.replicate 26 (nI 0))++r.L
theorem Ajo {t:List UInt8} {r:E7} (hr:r.ok=true):Bc (Ab (Yv t r)):=by
 refine Ap ?_
 unfold Yv
 rw [List.all_append,show (r.L.all fun p=>p.clean&&p.pure)=true from hr]
 rfl
theorem Akr {f g:FuncId} (hkk:(Pm.all fun k=>A0 (.atom 3) (Am PG (Aj An [.prim g [xK k] (.atom 1),sA (.str [40]) (.atom 1) (.atom 2),sA (.atom 2) (.str [41]) (.atom 3)]) 10 f [xK k] []))=true)
  {k:Int} (hk:k∈Pm) {r:E7} (hr:r.ok=true) (hrk:r.k=nI k) {t:List UInt8} (hl:t.length≤100000) (h:Ev PG g [r.pv] (.str t)):Ev PG f [r.pv] (.str ([40]++t++[41])):=by
 have hpu:=E7.pure hr
 obtain ⟨k',nm,v0,v1,v2,v3,l⟩:=r
 dsimp only at hrk
 subst hrk
 exact Ev.facts (nu:=Ab (Yv t ⟨nI k,nm,v0,v1,v2,v3,l⟩)) (args:=[xK k]) Af (Ajo hr) (As (List.all_eq_true.1 hkk k hk))
  ⟨Ai h rfl rfl rfl,Ax (l:=[40]) (m:=t) rfl rfl (by simp;omega) rfl rfl,Ax (l:=[40]++t) (m:=[41]) rfl rfl (by simp;omega) rfl rfl,trivial⟩
  (by
   show ((PV.pure (E7.pv ⟨nI k,nm,v0,v1,v2,v3,l⟩)&&true)&&true&&true)=true
   rw [hpu];rfl) rfl
open Go Go.RowKit
def H3 (t1 t2 t3 t4 t5 t6:List UInt8) (r q:E7):List PV:=[nI 0, .str t1, .str t2, .str t3, .str t4, .str t5, .str t6]++(List.replicate 23 (nI 0)++(r.L++(List.replicate 23 (nI 0)++q.L)))
theorem Iz {t1 t2 t3 t4 t5 t6:List UInt8} {r q:E7} (hr:r.ok=true) (hq:q.ok=true):Bc (Ab (H3 t1 t2 t3 t4 t5 t6 r q)):=by
 refine Ap ?_
 unfold H3
 rw [List.all_append,List.all_append,List.all_append,List.all_append,show (r.L.all fun p=>p.clean&&p.pure)=true from hr,show (q.L.all fun p=>p.clean&&p.pure)=true from hq]
 rfl
structure Pr (e:Xp):Prop where
 x:Ev PG Hl [e.e7.pv] (.str e.txt)
 w:Ev PG Og [e.e7.pv] (.str e.inn)
 rx:Ev PG Hw [e.e7.pv] (.str e.txt)
 rw:Ev PG Ol [e.e7.pv] (.str e.inn)
theorem Ait {f g:FuncId} (hkk:([1,2].all fun k=>A0 (.atom 1) (Am PG (Aj An [.prim g [xK k] (.atom 1)]) 10 f [xK k] []))=true)
  {k:Int} (hk:k∈[(1:Int),2]) {r:E7} (hr:r.ok=true) (hrk:r.k=nI k) {t:List UInt8} (h:Ev PG g [r.pv] (.str t)):Ev PG f [r.pv] (.str t):=by
 have hpu:=E7.pure hr
 obtain ⟨k',nm,v0,v1,v2,v3,l⟩:=r
 dsimp only at hrk
 subst hrk
 exact Ev.facts (nu:=Ab (Yv t ⟨nI k,nm,v0,v1,v2,v3,l⟩)) (args:=[xK k]) Af (Ajo hr) (As (List.all_eq_true.1 hkk k hk))
  ⟨Ai h rfl rfl rfl,trivial⟩
  (by
   show ((PV.pure (E7.pv ⟨nI k,nm,v0,v1,v2,v3,l⟩)&&true)&&true&&true)=true
   rw [hpu];rfl) rfl
theorem Aiv {e:Xp} {k:Int} (hk:k∈[(1:Int),2]) (hrk:e.e7.k=nI k) (hl:e.leaf=true) (h1:Ev PG Hl [e.e7.pv] (.str e.txt)) (h2:Ev PG Hw [e.e7.pv] (.str e.txt)):Pr e:=by
 have hi:e.inn=e.txt:=by unfold Xp.inn;rw [hl];rfl
 exact ⟨h1,by rw [hi];exact Ait Az4 hk (Bg e) hrk h1,h2,by rw [hi];exact Ait Ay6 hk (Bg e) hrk h2⟩
theorem Xs {e:Xp} {k:Int} (hk:k∈Pm) (hrk:e.e7.k=nI k) (hl:e.leaf=false) (hlen:e.txt.length≤100000) (h1:Ev PG Hl [e.e7.pv] (.str e.txt)) (h2:Ev PG Hw [e.e7.pv] (.str e.txt)):Pr e:=by
 have hi:e.inn=[40]++e.txt++[41]:=by unfold Xp.inn;rw [hl];rfl
 exact ⟨h1,by rw [hi];exact Akr Ayp hk (Bg e) hrk hlen h1,h2,by rw [hi];exact Akr Azu hk (Bg e) hrk hlen h2⟩
theorem Qw (b:Bool) (t:List UInt8):(G8 b t).length≤t.length+2∧t.length≤(G8 b t).length:=by
 cases b with
 | true=>exact ⟨by show t.length≤_;omega,Nat.le_refl _⟩
 | false=>exact ⟨by simp [G8],by simp [G8];omega⟩
theorem Aix:∀ i,i < 9→(Ek i).length≤3:=by decide
theorem Jz:∀ (e:Xp),e.wf→e.txt.length≤100000→Pr e
 | .lit v t,hw,_=>by
  refine Aiv (k:=1) (by simp) rfl rfl ?_ ?_
  ·exact Ev.facts (nu:=Ab ([nI 0, .str t]++(List.replicate 30 (nI 0)++[nI v.1,nI v.2.1,nI v.2.2.1, .str v.2.2.2]))) (args:=[Ew (nI 1) (.str []) (.atom 32) (.atom 33) (.atom 34) (.atom 35) .nilslice]) Af (Ap rfl) (As Axp) ⟨Ai hw.1.one rfl rfl rfl,trivial⟩ rfl rfl
  ·exact Ev.facts (nu:=Ab ([nI 0, .str t]++(List.replicate 30 (nI 0)++[nI v.1,nI v.2.1,nI v.2.2.1, .str v.2.2.2]))) (args:=[Ew (nI 1) (.str []) (.atom 32) (.atom 33) (.atom 34) (.atom 35) .nilslice]) Af (Ap rfl) (As Az0) ⟨Ai hw.1.two rfl rfl rfl,trivial⟩ rfl rfl
 | .col w,_,_=>by
  refine Aiv (k:=2) (by simp) rfl rfl ?_ ?_
  ·exact Ev.facts (nu:=Ab [nI 0, .str w]) (args:=[Ew (nI 2) (.atom 1) (nI 0) (nI 0) (nI 0) (.str []) .nilslice]) Af (Ap rfl) (As Azz) trivial rfl rfl
  ·exact Ev.facts (nu:=Ab [nI 0, .str w]) (args:=[Ew (nI 2) (.atom 1) (nI 0) (nI 0) (nI 0) (.str []) .nilslice]) Af (Ap rfl) (As Ay9) trivial rfl rfl
 | .neg a,hw,hl=>by
  have hl':([45,40]++a.txt++[41]).length≤100000:=hl
  simp only [List.length_append,List.length_cons,List.length_nil] at hl'
  have ha:=Jz a hw (by omega)
  have hpu:=E7.pure (E7.un_ok (k:=4) (Bg a))
  refine Xs (k:=4) (by decide) rfl rfl hl ?_ ?_
  ·exact Ev.facts (nu:=Ab (H3 a.txt ([45,40]++a.txt) ([45,40]++a.txt++[41]) [] [] [] a.e7 a.e7)) (args:=[F7 4]) Af (Iz (Bg a) (Bg a)) (As Avk)
    ⟨Ai ha.x rfl rfl rfl,Ax (l:=[45,40]) (m:=a.txt) rfl rfl (by simp;omega) rfl rfl,Ax (l:=[45,40]++a.txt) (m:=[41]) rfl rfl (by simp;omega) rfl rfl,trivial⟩
    (by
     show ((PV.pure (E7.pv (E7.un 4 a.e7))&&true)&&true&&true)=true
     rw [hpu];rfl) rfl
  ·exact Ev.facts (nu:=Ab (H3 a.txt ([45,40]++a.txt) ([45,40]++a.txt++[41]) [] [] [] a.e7 a.e7)) (args:=[F7 4]) Af (Iz (Bg a) (Bg a)) (As Avl)
    ⟨Ai ha.rx rfl rfl rfl,Ax (l:=[45,40]) (m:=a.txt) rfl rfl (by simp;omega) rfl rfl,Ax (l:=[45,40]++a.txt) (m:=[41]) rfl rfl (by simp;omega) rfl rfl,trivial⟩
    (by
     show ((PV.pure (E7.pv (E7.un 4 a.e7))&&true)&&true&&true)=true
     rw [hpu];rfl) rfl
 | .not a,hw,hl=>by
  have hl':([110,111,116,32]++a.inn).length≤100000:=hl
  have hb:=Qw a.leaf a.txt
  have hi:a.inn=G8 a.leaf a.txt:=rfl
  rw [hi] at hl'
  simp only [List.length_append,List.length_cons,List.length_nil] at hl'
  have ha:=Jz a hw (by omega)
  have hpu:=E7.pure (E7.un_ok (k:=3) (Bg a))
  refine Xs (k:=3) (by decide) rfl rfl hl ?_ ?_
  ·exact Ev.facts (nu:=Ab (H3 a.inn ([110,111,116,32]++a.inn) [] [] [] [] a.e7 a.e7)) (args:=[F7 3]) Af (Iz (Bg a) (Bg a)) (As Au8)
    ⟨Ai ha.w rfl rfl rfl,Ax (l:=[110,111,116,32]) (m:=a.inn) rfl rfl (by rw [hi];simp;omega) rfl rfl,trivial⟩
    (by
     show ((PV.pure (E7.pv (E7.un 3 a.e7))&&true)&&true&&true)=true
     rw [hpu];rfl) rfl
  ·exact Ev.facts (nu:=Ab (H3 a.inn ([110,111,116,32]++a.inn) [] [] [] [] a.e7 a.e7)) (args:=[F7 3]) Af (Iz (Bg a) (Bg a)) (As Aud)
    ⟨Ai ha.rw rfl rfl rfl,Ax (l:=[110,111,116,32]) (m:=a.inn) rfl rfl (by rw [hi];simp;omega) rfl rfl,trivial⟩
    (by
     show ((PV.pure (E7.pv (E7.un 3 a.e7))&&true)&&true&&true)=true
     rw [hpu];rfl) rfl
 | .isn a,hw,hl=>by
  have hl':(a.inn++Im).length≤100000:=hl
  have hb:=Qw a.leaf a.txt
  have hi:a.inn=G8 a.leaf a.txt:=rfl
  rw [hi,List.length_append,show Im.length=8 from rfl] at hl'
  have ha:=Jz a hw (by omega)
  have hpu:=E7.pure (E7.un_ok (k:=5) (Bg a))
  refine Xs (k:=5) (by decide) rfl rfl hl ?_ ?_
  ·exact Ev.facts (nu:=Ab (H3 a.inn (a.inn++Im) [] [] [] [] a.e7 a.e7)) (args:=[F7 5]) Af (Iz (Bg a) (Bg a)) (As Avg)
    ⟨Ai ha.w rfl rfl rfl,Ax (l:=a.inn) (m:=Im) rfl rfl (by rw [hi,show Im.length=8 from rfl];omega) rfl rfl,trivial⟩
    (by
     show ((PV.pure (E7.pv (E7.un 5 a.e7))&&true)&&true&&true)=true
     rw [hpu];rfl) rfl
  ·exact Ev.facts (nu:=Ab (H3 a.inn (a.inn++Im) [] [] [] [] a.e7 a.e7)) (args:=[F7 5]) Af (Iz (Bg a) (Bg a)) (As Au0)
    ⟨Ai ha.rw rfl rfl rfl,Ax (l:=a.inn) (m:=Im) rfl rfl (by rw [hi,show Im.length=8 from rfl];omega) rfl rfl,trivial⟩
    (by
     show ((PV.pure (E7.pv (E7.un 5 a.e7))&&true)&&true&&true)=true
     rw [hpu];rfl) rfl
 | .op k a b,hw,hl=>by
  obtain ⟨hk,hwa,hwb⟩:=hw
  have hl':(a.inn++[32]++Ek k++[32]++b.inn).length≤100000:=hl
  have h1:=Qw a.leaf a.txt
  have h2:=Qw b.leaf b.txt
  have hia:a.inn=G8 a.leaf a.txt:=rfl
  have hib:b.inn=G8 b.leaf b.txt:=rfl
  have hop:=Aix k hk
  simp only [List.length_append,List.length_cons,List.length_nil] at hl'
  have ha:=Jz a hwa (by rw [hia] at hl';omega)
  have hb:=Jz b hwb (by rw [hib] at hl';omega)
  have hpu:=E7.pure (E7.bin_ok (k:=(Df.getD k (0, "")).1) (Bg a) (Bg b))
  have hq:Df.getD k (0, "")∈Df:=by
   rw [List.getD_eq_getElem?_getD,List.getElem?_eq_getElem (show k < Df.length from hk)]
   exact List.getElem_mem _
  have hkx:(Df.getD k (0, "")).1∈Pm:=by
   have:∀ k,k < 9→(Df.getD k (0, "")).1∈Pm:=by decide
   exact this k hk
  have hS:∀ nu:Nat→PV,nu 1 = .str a.inn→nu 2 = .str b.inn→nu 3 = .str (a.inn++[32])→nu 4 = .str (a.inn++[32]++Ek k)→nu 5 = .str (a.inn++[32]++Ek k++[32])→nu 6 = .str (a.inn++[32]++Ek k++[32]++b.inn) →
    Ah PG nu [sA (.atom 1) (.str [32]) (.atom 3),sA (.atom 3) (.str (kw (Df.getD k (0, "")).2)) (.atom 4),sA (.atom 4) (.str [32]) (.atom 5),sA (.atom 5) (.atom 2) (.atom 6)]:=fun nu e1 e2 e3 e4 e5 e6 =>
   ⟨Ax (l:=a.inn) (m:=[32]) e1 rfl (by simp;omega) e3 (by show (nu 3).one=true;rw [e3];rfl),Ax (l:=a.inn++[32]) (m:=Ek k) e3 rfl (by simp;omega) e4 (by show (nu 4).one=true;rw [e4];rfl),
    Ax (l:=a.inn++[32]++Ek k) (m:=[32]) e4 rfl (by simp;omega) e5 (by show (nu 5).one=true;rw [e5];rfl),Ax (l:=a.inn++[32]++Ek k++[32]) (m:=b.inn) e5 e2 (by simp;omega) e6 (by show (nu 6).one=true;rw [e6];rfl),trivial⟩
  refine Xs (k:=(Df.getD k (0, "")).1) hkx rfl rfl hl ?_ ?_
  ·exact Ev.facts (nu:=Ab (H3 a.inn b.inn (a.inn++[32]) (a.inn++[32]++Ek k) (a.inn++[32]++Ek k++[32]) (a.inn++[32]++Ek k++[32]++b.inn) a.e7 b.e7)) (args:=[I5 (Df.getD k (0, "")).1]) Af (Iz (Bg a) (Bg b)) (As (List.all_eq_true.1 Axz _ hq))
    ⟨Ai ha.w rfl rfl rfl,Ai hb.w rfl rfl rfl,hS _ rfl rfl rfl rfl rfl rfl⟩
    (by
     show ((PV.pure (E7.pv (E7.bin (Df.getD k (0, "")).1 a.e7 b.e7))&&true)&&true&&true)=true
     rw [hpu];rfl) rfl
  ·exact Ev.facts (nu:=Ab (H3 a.inn b.inn (a.inn++[32]) (a.inn++[32]++Ek k) (a.inn++[32]++Ek k++[32]) (a.inn++[32]++Ek k++[32]++b.inn) a.e7 b.e7)) (args:=[I5 (Df.getD k (0, "")).1]) Af (Iz (Bg a) (Bg b)) (As (List.all_eq_true.1 Awc _ hq))
    ⟨Ai ha.rw rfl rfl rfl,Ai hb.rw rfl rfl rfl,hS _ rfl rfl rfl rfl rfl rfl⟩
    (by
     show ((PV.pure (E7.pv (E7.bin (Df.getD k (0, "")).1 a.e7 b.e7))&&true)&&true&&true)=true
     rw [hpu];rfl) rfl
open Go Go.RowKit
abbrev Ak (n:Int):Int:=IntKind.i64.wrap n
theorem Pj {n:Int} (h0 : -9223372036854775808≤n) (h1:n≤9223372036854775807):Ak n=n:=Dn h0 h1
inductive Au where
 | mk (k n:Int) (s:List UInt8) (nl:Nat) (l:List Au)
mutual
def Au.pv:Au→PV
 | .mk k n s nl l=>.agg [nI k,nI n, .str s,(match nl with|0=>.nilslice|1=>.eslice|_=>.slice 4 (Au.pvs l))]
def Au.pvs:List Au→List PV
 | []=>[]
 | r::l=>Au.pv r::Au.pvs l
end
def A1 (nl:Nat) (l:List Au):PV:=match nl with|0=>.nilslice|1=>.eslice|_=>.slice 4 (Au.pvs l)
def Au.k:Au→Int | .mk k _ _ _ _=>k
def Au.n:Au→Int | .mk _ n _ _ _=>n
def Au.s:Au→List UInt8 | .mk _ _ s _ _=>s
def Au.nl:Au→Nat | .mk _ _ _ nl _=>nl
def Au.l:Au→List Au | .mk _ _ _ _ l=>l
def F6 (nl:Nat) (l:List Au):Prop:=nl < 2→l=[]
abbrev In64 (n:Int):Prop:=-9223372036854775808≤n∧n≤9223372036854775807
mutual
def Au.ok:Au→Prop
 | .mk k n _ nl l=>(In64 k∧In64 n)∧F6 nl l∧Au.oks l
def Au.oks:List Au→Prop
 | []=>True
 | r::l=>Au.ok r∧Au.oks l
end
theorem Px (r:Au):r.pv = .agg [nI r.k,nI r.n, .str r.s,A1 r.nl r.l]:=by cases r;rfl
theorem Nw:∀ l:List Au,Au.pvs l=l.map Au.pv
 | []=>rfl
 | r::l=>by simp only [Au.pvs,List.map_cons,Nw l]
mutual
theorem Aji:∀ r:Au,r.pv.pure=true
 | .mk k n s nl l=>by
  simp only [Au.pv,PV.pure,PV.pureL]
  have:=Abs l
  split<;>simp [PV.pure,this]
theorem Abs:∀ l:List Au,PV.pureL (Au.pvs l)=true
 | []=>rfl
 | r::l=>by simp only [Au.pvs,PV.pureL,Aji r,Abs l,Bool.and_self]
end
theorem Ja (nl:Nat) (l:List Au):(A1 nl l).clean=true∧(A1 nl l).pure=true∧(A1 nl l).one=true:=by
 unfold A1
 split
 ·exact ⟨rfl,rfl,rfl⟩
 ·exact ⟨rfl,rfl,rfl⟩
 ·exact ⟨rfl,Abs l,rfl⟩
theorem Xv:∀ {l:List Au},Au.oks l→∀ {i:Nat} {r:Au},l[i]? = some r→r.ok
 | [],_,i,r,h=>by simp at h
 | q::l,h,0,r,hr=>by simp at hr;subst hr;exact h.1
 | q::l,h,i+1,r,hr=>Xv h.2 (i:=i) (by simpa using hr)
theorem Oo {nl:Nat} {l:List Au} (h:F6 nl l):E3 PG Ha (A1 nl l)=some (nI l.length):=by
 have hu:PG.underlying Ha=some (.slice Nk):=by kernel_rfl
 unfold E3
 rw [hu]
 match nl,h with
 | 0,h=>rw [h (by decide)];rfl
 | 1,h=>rw [h (by decide)];rfl
 | nl+2,_ =>
  show some (nI ((Au.pvs l).length:Nat))=_
  rw [Nw,List.length_map]
theorem Ab1 {nl:Nat} {l:List Au} (h:F6 nl l) {i:Nat} {r:Au} (hr:l[i]? = some r):Gf PG Ha (A1 nl l) (nI i)=some (.ref [nI r.k,nI r.n, .str r.s,A1 r.nl r.l]):=by
 have hu:PG.underlying Ha=some (.slice Nk):=by kernel_rfl
 have hs:Dl PG Nk=some 4:=by kernel_rfl
 unfold Gf
 rw [hu]
 have hne:¬ nl < 2:=fun hlt=>by rw [h hlt] at hr;simp at hr
 have e:A1 nl l = .slice 4 (Au.pvs l):=by
  match nl,hne with
  | 0,hne=>exact absurd (by decide) hne
  | 1,hne=>exact absurd (by decide) hne
  | nl+2,_=>rfl
 rw [e]
 have:(Au.pvs l)[((i:Nat):Int).toNat]? = some (.agg [nI r.k,nI r.n, .str r.s,A1 r.nl r.l]):=by
  rw [Nw]
  simp [hr,Px]
 simp only [hs,true_and]
 rw [if_pos (by omega),this]
 rfl
def If (rec:List Au→Int):List Au→Int→Option Int
 | [],n=>some n
 | x::xs,n=>if n≤16 then (if 100 < x.s.length then none else If rec xs (n+1+rec x.l)) else some n
def Dx:Nat→List Au→Int
 | 0,_=>1000
 | d+1,l=>(If (Dx d) l 0).getD 1000
theorem Aiq {rec:List Au→Int} {M:Int} (hM:1000≤M) (h:∀ l,0≤rec l∧rec l≤M):∀ (l:List Au) (n:Int),0≤n→n≤M+17→0≤(If rec l n).getD 1000∧(If rec l n).getD 1000≤M+17
 | [],n,h0,h1=>⟨h0,h1⟩
 | x::xs,n,h0,h1=>by
  unfold If
  have:=h x.l
  split
  ·split
   ·simp only [Option.getD_none];omega
   ·exact Aiq hM h xs _ (by omega) (by omega)
  ·exact ⟨h0,h1⟩
theorem Abo:∀ (d:Nat) (l:List Au),0≤Dx d l∧Dx d l≤1000+17*d
 | 0,_=>by simp [Dx]
 | d+1,l=>by
  have:=Aiq (rec:=Dx d) (M:=1000+17*d) (by omega) (Abo d) l 0 (by omega) (by omega)
  unfold Dx
  omega
def Oe:List (Nat × PV):=[(0, .atom 0),(1, .atom 1),(5, .atom 2),(6, .atom 3)]
def Y7 (b:Bool):List Ao:=[.op (.len Ha) [.atom 0] (.atom 4),oI .lss (.atom 3) (.atom 4) (.bool b)]
def Ze (q:Bool):List Ao :=
 Y7 true++[oI .leq (.atom 2) (nI 16) (.bool true), .op (.ix Ha) [.atom 0, .atom 3] (.ref [.atom 5, .atom 6, .atom 7, .atom 8]),oI .add (.atom 2) (nI 1) (.atom 9),oI .add (.atom 1) (nI 1) (.atom 10), .prim Hn [.atom 8, .atom 10] (.atom 11),
  oI .add (.atom 9) (.atom 11) (.atom 12), .op (.len Ar) [.atom 7] (.atom 13),oI .gtr (.atom 13) (nI 100) (.bool q),oI .add (.atom 3) (nI 1) (.atom 14)]
noncomputable abbrev Yj (fs:List Ao):Option (Ex × St):=Gv PG (Aj An fs) (Am PG (Aj An fs) 5) ((Aj An fs).loop Hn) 5 3 (Du PG Hn 5) ⟨Oe,[]⟩
theorem Qu:Hj PG Hn 5=true:=by kernel_rfl
theorem Azk:Dc (Yj (Y7 false)) (.exit 0) [(5, .atom 2)] []=true:=by kernel_rfl
theorem Ayq:Dc (Yj (Y7 true++[oI .leq (.atom 2) (nI 16) (.bool false)])) (.exit 0) [(5, .atom 2)] []=true:=by kernel_rfl
theorem Aym:Dc (Yj (Ze true)) .ret [(4,nI 1000)] []=true:=by kernel_rfl
theorem Ay1:Dc (Yj (Ze false)) .normal [(0, .atom 0),(1, .atom 1),(5, .atom 12),(6, .atom 14)] []=true:=by kernel_rfl
theorem Ajm (a b c d:PV) (l:List PV):Fp (Ab (a::b::c::d::l)) Oe=[(0,a),(1,b),(5,c),(6,d)]:=rfl
set_option maxRecDepth 20000 in
theorem Att {d:Nat} (hd:d≤7) {dp:Int} (hdp:0≤dp∧dp≤7) (hrec:∀ nl l,F6 nl l→Au.oks l→Ev PG Hn [A1 nl l,nI (dp+1)] (nI (Dx d l))) {nl:Nat} {l:List Au} (hn:F6 nl l) (ho:Au.oks l) :
  ∀ (xs:List Au) (i:Nat) (n:Int),l.drop i=xs→(i:Int)≤n→n≤2000 →
   By PG (Fq PG Hn) (Du PG Hn 5) [(0,A1 nl l),(1,nI dp),(5,nI n),(6,nI i)] [] (match If (Dx d) xs n with|some _=>.exit 0|none=>.ret) (match If (Dx d) xs n with|some m=>[(5,nI m)]|none=>[(4,nI 1000)]) []:=by
 intro xs
 have hg:=Ja nl l
 have hgc:(A1 nl l).clean=true:=hg.1
 induction xs with
 | nil =>
  intro i n hi h1 h2
  have hlen:l.length≤i:=by
   have:=congrArg List.length hi
   simp at this;omega
  have hge:¬ ((i:Nat):Int) < (l.length:Int):=by omega
  refine By.leave ?_ (fun h=>by cases h)
  have hnu:Bc (Ab [A1 nl l,nI dp,nI n,nI i,nI l.length]):=Ap (by simp only [List.all_cons,hg.1,hg.2.1];rfl)
  refine Ci.chk Af hnu (T:=Oe) (s:=[]) (T':=[(5, .atom 2)]) (s':=[]) Qu Azk ⟨?_,?_,trivial⟩ ?_ rfl rfl
  ·exact ⟨Oo hn,rfl⟩
  ·exact Av (c:=false) (a:=i) (b:=l.length) rfl rfl rfl (by simp only [Aq];rw [decide_eq_false hge]) (by decide) rfl
  ·rw [Ajm]
   show (((A1 nl l).pure&&_)&&((A1 nl l).one&&_))=true
   rw [hg.2.1,hg.2.2];rfl
 | cons x xs ih =>
  intro i n hi h1 h2
  have hx:l[i]? = some x:=by
   have:=congrArg (fun z=>z[0]?) hi
   simpa using this
  have hil:i < l.length:=(List.getElem?_eq_some_iff.1 hx).1
  have hxs:l.drop (i+1)=xs:=by
   have:=congrArg List.tail hi
   simpa using this
  have hlt:((i:Nat):Int) < (l.length:Int):=by omega
  unfold If
  by_cases h16:n≤16
  ·rw [if_pos h16]
   have hok:=Xv ho hx
   have hgx:=Ja x.nl x.l
   have hxo:F6 x.nl x.l∧Au.oks x.l:=by cases x;exact hok.2
   have hcall:=hrec x.nl x.l hxo.1 hxo.2
   have hb:=Abo d x.l
   have e1:Ak (n+1)=n+1:=Pj (by omega) (by omega)
   have e2:Ak (dp+1)=dp+1:=Pj (by omega) (by omega)
   have e3:Ak (n+1+Dx d x.l)=n+1+Dx d x.l:=Pj (by omega) (by omega)
   have e4:Ak ((i:Int)+1)=((i+1:Nat):Int):=by rw [Pj (by omega) (by omega)];omega
   have hnu:Bc (Ab [A1 nl l,nI dp,nI n,nI i,nI l.length,nI x.k,nI x.n, .str x.s,A1 x.nl x.l,nI (n+1),nI (dp+1),nI (Dx d x.l),nI (n+1+Dx d x.l),nI x.s.length,nI (i+1:Nat)]) :=
    Ap (by simp only [List.all_cons,hg.1,hg.2.1,hgx.1,hgx.2.1];rfl)
   have hfacts:∀ q,decide (((x.s.length:Nat):Int) > 100)=q→Ah PG (Ab [A1 nl l,nI dp,nI n,nI i,nI l.length,nI x.k,nI x.n, .str x.s,A1 x.nl x.l,nI (n+1),nI (dp+1),nI (Dx d x.l),nI (n+1+Dx d x.l),nI x.s.length,nI (i+1:Nat)]) (Ze q):=fun q hq=>by
    unfold Ze Y7
    refine ⟨⟨Oo hn,rfl⟩,?_,?_,⟨?_,?_⟩,?_,?_,?_,?_,⟨?_,rfl⟩,?_,?_,trivial⟩
    ·exact Av (c:=true) (a:=i) (b:=l.length) rfl rfl rfl (by simp only [Aq];rw [decide_eq_true hlt]) (by decide) rfl
    ·exact Av (c:=true) (a:=n) (b:=16) rfl rfl rfl (by simp only [Aq];rw [decide_eq_true h16]) (by decide) rfl
    ·exact Ab1 hn hx
    ·rfl
    ·exact Bm (a:=n) (b:=1) rfl rfl rfl (by simp only [Aq];rw [show IntKind.i64.wrap (n+1)=_ from e1]) (by decide) rfl
    ·exact Bm (a:=dp) (b:=1) rfl rfl rfl (by simp only [Aq];rw [show IntKind.i64.wrap (dp+1)=_ from e2]) (by decide) rfl
    ·exact Ai hcall rfl rfl rfl
    ·exact Bm (a:=n+1) (b:=Dx d x.l) rfl rfl rfl (by simp only [Aq];rw [show IntKind.i64.wrap (n+1+Dx d x.l)=_ from e3]) (by decide) rfl
    ·show E3 PG Ar (.str x.s)=some (nI x.s.length)
     have hu:PG.underlying Ar=some .string:=by kernel_rfl
     unfold E3
     rw [hu]
    ·exact Av (c:=q) (a:=x.s.length) (b:=100) rfl rfl rfl (by simp only [Aq];rw [hq]) (by decide) rfl
    ·exact Bm (a:=i) (b:=1) rfl rfl rfl (by simp only [Aq];rw [show IntKind.i64.wrap ((i:Int)+1)=_ from e4]) (by decide) rfl
   have hT:∀ {nu:Nat→PV},nu 0=A1 nl l→nu 1=nI dp→nu 2=nI n→nu 3=nI i→(N3 (Fp nu Oe)&&N8 nu Oe)=true:=fun {nu} a0 a1 a2 a3=>by
    show (((nu 0).pure&&((nu 1).pure&&((nu 2).pure&&((nu 3).pure&&true))))&&((nu 0).one&&((nu 1).one&&((nu 2).one&&((nu 3).one&&true)))))=true
    rw [a0,a1,a2,a3,hg.2.1,hg.2.2];rfl
   by_cases h100:100 < x.s.length
   ·rw [if_pos h100]
    refine By.leave ?_ (fun h=>by cases h)
    exact Ci.chk Af hnu (T:=Oe) (s:=[]) (T':=[(4,nI 1000)]) (s':=[]) Qu Aym (hfacts true (by simp;omega)) (hT rfl rfl rfl rfl) rfl rfl
   ·rw [if_neg h100]
    refine By.round ?_ (ih (i+1) (n+1+Dx d x.l) hxs (by omega) (by omega))
    refine Ci.chk Af hnu (T:=Oe) (s:=[]) (T':=[(0, .atom 0),(1, .atom 1),(5, .atom 12),(6, .atom 14)]) (s':=[]) Qu Ay1 (hfacts false (by simp;omega)) (hT rfl rfl rfl rfl) rfl ?_
    show (((A1 nl l).pure&&_)&&_)=true
    rw [hg.2.1];rfl
  ·rw [if_neg h16]
   refine By.leave ?_ (fun h=>by cases h)
   have hnu:Bc (Ab [A1 nl l,nI dp,nI n,nI i,nI l.length]):=Ap (by simp only [List.all_cons,hg.1,hg.2.1];rfl)
   refine Ci.chk Af hnu (T:=Oe) (s:=[]) (T':=[(5, .atom 2)]) (s':=[]) Qu Ayq ⟨⟨Oo hn,rfl⟩,?_,?_,trivial⟩ ?_ rfl rfl
   ·exact Av (c:=true) (a:=i) (b:=l.length) rfl rfl rfl (by simp only [Aq];rw [decide_eq_true hlt]) (by decide) rfl
   ·exact Av (c:=false) (a:=n) (b:=16) rfl rfl rfl (by simp only [Aq];rw [decide_eq_false h16]) (by decide) rfl
   ·rw [Ajm]
    show (((A1 nl l).pure&&_)&&((A1 nl l).one&&_))=true
    rw [hg.2.1,hg.2.2];rfl
theorem Aw2:A0 (nI 1000) (Am PG (Aj An [oI .gtr (.atom 1) (nI 6) (.bool true)]) 5 Hn [.atom 0, .atom 1] [])=true:=by kernel_rfl
theorem Aw4:A0 (.atom 2) (Am PG (Aj An [oI .gtr (.atom 1) (nI 6) (.bool false), .loop Hn 5 [(0, .atom 0),(1, .atom 1),(5,nI 0),(6,nI 0)] [] (.exit 0) [(5, .atom 2)] []]) 5 Hn [.atom 0, .atom 1] [])=true:=by kernel_rfl
theorem Awl:A0 (nI 1000) (Am PG (Aj An [oI .gtr (.atom 1) (nI 6) (.bool false), .loop Hn 5 [(0, .atom 0),(1, .atom 1),(5,nI 0),(6,nI 0)] [] .ret [(4,nI 1000)] []]) 5 Hn [.atom 0, .atom 1] [])=true:=by kernel_rfl
set_option maxRecDepth 20000 in
theorem Ajp:∀ (d:Nat),d≤7→∀ nl l,F6 nl l→Au.oks l→Ev PG Hn [A1 nl l,nI (7 - d)] (nI (Dx d l))
 | 0,_,nl,l,hn,ho=>by
  have hg:=Ja nl l
  refine Ev.facts Af (Ap (l:=[A1 nl l,nI 7]) (by simp only [List.all_cons,hg.1,hg.2.1];rfl)) (As Aw2) ⟨Av (c:=true) (a:=7) (b:=6) rfl rfl rfl rfl (by decide) rfl,trivial⟩ ?_ rfl
  show (((A1 nl l).pure&&(A1 nl l).one)&&true&&_)=true
  rw [hg.2.1,hg.2.2];rfl
 | d+1,hd,nl,l,hn,ho=>by
  have hg:=Ja nl l
  have hrec:∀ nl l,F6 nl l→Au.oks l→Ev PG Hn [A1 nl l,nI ((7 - ((d+1:Nat):Int))+1)] (nI (Dx d l)):=fun nl l h1 h2=>by
   have:=Ajp d (by omega) nl l h1 h2
   rw [show (7 - ((d+1:Nat):Int))+1=7 - (d:Int) by omega]
   exact this
  have hloop:=Att (d:=d) (by omega) (dp:=7 - ((d+1:Nat):Int)) (by omega) hrec hn ho l 0 0 rfl (by decide) (by decide)
  have hgt:¬ (7 - ((d+1:Nat):Int)) > 6:=by omega
  unfold Dx
  cases hs:If (Dx d) l 0 with
  | some m =>
   rw [hs] at hloop
   refine Ev.facts Af (Ap (l:=[A1 nl l,nI (7 - ((d+1:Nat):Int)),nI m]) (by simp only [List.all_cons,hg.1,hg.2.1];rfl)) (As Aw4)
    ⟨Av (c:=false) (a:=7 - ((d+1:Nat):Int)) (b:=6) rfl rfl rfl (by simp only [Aq];rw [decide_eq_false hgt]) (by decide) rfl,Ho Qu (Nat.le_refl _) hloop rfl,trivial⟩ ?_ rfl
   show (((A1 nl l).pure&&(A1 nl l).one)&&true&&_)=true
   rw [hg.2.1,hg.2.2];rfl
  | none =>
   rw [hs] at hloop
   refine Ev.facts Af (Ap (l:=[A1 nl l,nI (7 - ((d+1:Nat):Int))]) (by simp only [List.all_cons,hg.1,hg.2.1];rfl)) (As Awl)
    ⟨Av (c:=false) (a:=7 - ((d+1:Nat):Int)) (b:=6) rfl rfl rfl (by simp only [Aq];rw [decide_eq_false hgt]) (by decide) rfl,Ho Qu (Nat.le_refl _) hloop rfl,trivial⟩ ?_ rfl
   show (((A1 nl l).pure&&(A1 nl l).one)&&true&&_)=true
   rw [hg.2.1,hg.2.2];rfl
open Go Go.RowKit
open Go.ChangeShapes Go.WideShapes Go.Joins
theorem Aa3 {α β:Type} (f:α→List β):∀ (l:List α),(∀ a∈l,(f a).length=4)→∀ j,(l.flatMap f)[j]? = (l[j / 4]?).bind fun a=>(f a)[j % 4]?
 | [],_,j=>by simp
 | a::l,h,j=>by
  have ha:=h a (by simp)
  rw [List.flatMap_cons]
  by_cases hj:j < 4
  ·rw [List.getElem?_append_left (by omega)]
   have e1:j / 4=0:=by omega
   have e2:j % 4=j:=by omega
   rw [e1,e2];rfl
  ·rw [List.getElem?_append_right (by omega),ha,Aa3 f l (fun b hb=>h b (by simp [hb])) (j - 4)]
   have e1:j / 4=(j - 4) / 4+1:=by omega
   have e2:(j - 4) % 4=j % 4:=by omega
   rw [e1,e2];rfl
theorem cell_spot {w:World} {a:Addr} {v:Value} (h:w.cell? a=some v):a.spot=none:=by
 unfold World.cell? at h
 split at h
 ·split at h
  ·cases h
  ·rename_i hs
   simpa using hs
 ·cases h
theorem cells4 {w:World} {a:Addr} {cs:List Value} (h:w.cells? 0 a 4=some cs):∃ c0 c1 c2 c3,cs=[c0,c1,c2,c3]∧w.cell? a=some c0∧w.cell? (a.add 1)=some c1∧w.cell? (a.add 2)=some c2∧w.cell? (a.add 3)=some c3:=by
 obtain ⟨_,hl,hc⟩:=World.cells?_some h
 match cs,hl with
 | [c0,c1,c2,c3],_ =>
  exact ⟨c0,c1,c2,c3,rfl,by simpa [Addr.add] using hc 0 (by decide),by simpa using hc 1 (by decide),by simpa using hc 2 (by decide),by simpa using hc 3 (by decide)⟩
theorem wf64 {n:Int} (h:(Lit.int .i64 n).wf=true):In64 n:=bounds_i64 h
def Aiy (k:Option TypeDesc):Bool:=match k with
 | some (.struct fs)=>match fs.toList with
  | [f0,f1,f2,f3]=>Nat.beq f0.type Eh&&(Nat.beq f0.offset 0&&(Nat.beq f1.type Eh&&(Nat.beq f1.offset 1&&(Nat.beq f2.type Ar&&(Nat.beq f2.offset 2&&(Nat.beq f3.type Ha&&Nat.beq f3.offset 3))))))
  | _=>false
 | _=>false
theorem Aq9:Aiy (PG.underlying Nk)=true:=by kernel_rfl
theorem Avt:∃ f0 f1 f2 f3:Field,PG.underlying Nk=some (.struct #[f0,f1,f2,f3])∧(f0.type=Eh∧f0.offset=0)∧(f1.type=Eh∧f1.offset=1)∧(f2.type=Ar∧f2.offset=2)∧(f3.type=Ha∧f3.offset=3):=by
 have h:=Aq9
 generalize PG.underlying Nk=k at h
 unfold Aiy at h
 split at h
 ·rename_i fs
  split at h
  ·rename_i f0 f1 f2 f3 hl
   simp only [Bool.and_eq_true,Nat.beq_eq] at h
   obtain ⟨a1,a2,a3,a4,a5,a6,a7,a8⟩:=h
   have:fs = #[f0,f1,f2,f3]:=by
    rw [← Array.toArray_toList (xs:=fs),hl]
   rw [this]
   exact ⟨f0,f1,f2,f3,rfl,⟨a1,a2⟩,⟨a3,a4⟩,⟨a5,a6⟩,a7,a8⟩
  ·cases h
 ·cases h
theorem Aje:PG.underlying Ha=some (.slice Nk):=by kernel_rfl
theorem Alg:PG.underlying Eh=some (.int .i64):=by kernel_rfl
theorem Adh:PG.cellsOf Nk=4:=by kernel_rfl
theorem Akw:PG.cellsOf Eh=1:=by kernel_rfl
theorem Aqb:PG.cellsOf Ar=1:=by kernel_rfl
theorem Ar7:PG.cellsOf Ha=1:=by kernel_rfl
structure Akz (W:World) (r:Au) (c:Nat→Value):Prop where
 ok:r.ok
 c0:c 0 = .int .i64 r.k
 c1:c 1 = .int .i64 r.n
 c2:c 2 = .string ⟨r.s.toArray⟩
 c3:R (Jc W) (A1 r.nl r.l) (c 3)∧(c 3).oneCell'=true
theorem Af5 {W:World} {r:Au} {c:Nat→Value} (h:Akz W r c) {j:Nat} {p:PV} (hp:r.pv.cellsD[j]? = some p):R (Jc W) p (c j)∧(c j).oneCell'=true∧p.clean=true:=by
 rw [Px] at hp
 match j,hp with
 | 0,hp=>cases hp;rw [h.c0];exact ⟨.int _ _,rfl,rfl⟩
 | 1,hp=>cases hp;rw [h.c1];exact ⟨.int _ _,rfl,rfl⟩
 | 2,hp=>cases hp;rw [h.c2];exact ⟨.str ⟨r.s.toArray⟩,rfl,rfl⟩
 | 3,hp=>cases hp;exact ⟨h.c3.1,h.c3.2,(Ja _ _).1⟩
theorem Akk:∀ {l:List Au},(∀ r∈l,r.ok)→Au.oks l
 | [],_=>trivial
 | r::l,h=>⟨h r (by simp),Akk fun q hq=>h q (by simp [hq])⟩
theorem Apu {H:Type} {enc:TypeId × Value→H} {W:World}:∀ (fuel:Nat) (cs:List Value) (x:DataW H × List MemPlace),DataW.trod enc PG W 0 (fun _=>true) true fuel Ha cs=some x →
  ∃ nl l v,cs=[v]∧F6 nl l∧Au.oks l∧R (Jc W) (A1 nl l) v∧v.oneCell'=true:=by
 intro fuel
 induction fuel using Nat.strongRecOn with
 | _ fuel ih =>
  intro cs x h
  rcases DataW.trod_slice Aje h with ⟨rfl,_⟩|⟨a,len,cap,elems,rest,n,hfuel,rfl,rfl,_,hl,hm,hlen,hel,hsp,_⟩
  ·exact ⟨0,[],_,rfl,fun _=>rfl,trivial, .nilslice,rfl⟩
  ·by_cases hcap:cap=0
   ·have:len=0:=by omega
    subst this hcap
    exact ⟨1,[],_,rfl,fun _=>rfl,trivial, .eslice a,rfl⟩
   ·have hspot:a.spot=none:=by
     by_cases h0:0 < len
     ·have h1:=hel 0 h0
      rw [List.getElem?_eq_getElem (by omega),Option.bind_eq_some_iff] at h1
      obtain ⟨c4,hc4,_⟩:=h1
      rw [Adh] at hc4
      obtain ⟨_,_,_,_,_,hc,_⟩:=cells4 hc4
      have:=cell_spot hc
      simpa [Addr.add] using this
     ·obtain ⟨hr,h1⟩:=hsp rfl
      have h1:=h1 0 (by omega)
      rw [List.getElem?_eq_getElem (by omega),Option.bind_eq_some_iff] at h1
      obtain ⟨c4,hc4,_⟩:=h1
      rw [Adh] at hc4
      obtain ⟨_,_,_,_,_,hc,_⟩:=cells4 hc4
      have:=cell_spot hc
      have e:len=0:=by omega
      subst e
      simpa [Addr.add] using this
    obtain ⟨b,o,sp⟩:=a
    simp only at hspot
    subst hspot
    obtain ⟨f0,f1,f2,f3,hu,⟨t0,o0⟩,⟨t1,o1⟩,⟨t2,o2⟩,t3,o3⟩:=Avt
    have each:∀ i,∃ (q:Au × (Nat→Value)),i < len→Akz W q.1 q.2∧∀ j,j < 4→W.cell? ⟨b,o+(i*4+j),none⟩=some (q.2 j):=fun i=>by
     by_cases hi:i < len
     ·have h1:=hel i hi
      rw [List.getElem?_eq_getElem (by omega),Option.bind_eq_some_iff] at h1
      obtain ⟨c4,hc4,ht⟩:=h1
      rw [Adh] at hc4
      obtain ⟨c0,c1,c2,c3,rfl,k0,k1,k2,k3⟩:=cells4 hc4
      obtain ⟨ys,m,hm',_,_,_,hfx⟩:=DataW.trod_struct hu ht
      have s0:=hfx 0 f0 rfl
      have s1:=hfx 1 f1 rfl
      have s2:=hfx 2 f2 rfl
      have s3:=hfx 3 f3 rfl
      rename_i hys
      have hy:ys.length=4:=hys
      rw [t0,o0,Akw,List.getElem?_eq_getElem (by omega)] at s0
      rw [t1,o1,Akw,List.getElem?_eq_getElem (by omega)] at s1
      rw [t2,o2,Aqb,List.getElem?_eq_getElem (by omega)] at s2
      rw [t3,o3,Ar7,List.getElem?_eq_getElem (by omega)] at s3
      obtain ⟨kk,e0,_,w0⟩:=DataW.trod_int Alg s0
      obtain ⟨nn,e1,_,w1⟩:=DataW.trod_int Alg s1
      obtain ⟨ss,e2,_,_⟩:=DataW.trod_string Ov s2
      have hmf:m < fuel:=by omega
      obtain ⟨nl,l,v,e3,g1,g2,g3,g4⟩:=ih m hmf _ _ s3
      simp at e0 e1 e2 e3
      subst e0 e1 e2 e3
      refine ⟨(.mk kk nn ss.data.toList nl l,fun j=>[Value.int .i64 kk, .int .i64 nn, .string ss,c3].getD j Go.undef),fun _=>⟨⟨⟨⟨wf64 w0,wf64 w1⟩,g1,g2⟩,rfl,rfl,rfl,g3,g4⟩,fun j hj=>?_⟩⟩
      have hj4:j=0∨j=1∨j=2∨j=3:=by omega
      rw [add_plain] at k0 k1 k2 k3
      rcases hj4 with rfl|rfl|rfl|rfl
      ·exact k0
      ·exact k1
      ·exact k2
      ·exact k3
     ·exact ⟨(.mk 0 0 [] 0 [],fun _=>Go.undef),fun h=>absurd h hi⟩
    obtain ⟨q,hq⟩:=Classical.axiomOfChoice each
    have hlen':((List.range len).map fun i=>(q i).1).length=len:=by simp
    refine ⟨2,(List.range len).map (fun i=>(q i).1),_,rfl,fun h=>absurd h (by decide),Akk fun r hr=>?_,?_,rfl⟩
    ·obtain ⟨i,hi,rfl⟩:=List.mem_map.1 hr
     rw [List.mem_range] at hi
     exact (hq i hi).1.ok
    ·have hget:∀ j p,((Au.pvs ((List.range len).map fun i=>(q i).1)).flatMap PV.cellsD)[j]? = some p→j / 4 < len∧(q (j / 4)).1.pv.cellsD[j % 4]? = some p:=fun j p hp=>by
      rw [Nw,Aa3 PV.cellsD _ (fun a ha=>by
       obtain ⟨r,_,rfl⟩:=List.mem_map.1 ha
       rw [Px];rfl)] at hp
      rw [List.getElem?_map,List.getElem?_map] at hp
      by_cases hj:j / 4 < len
      ·rw [List.getElem?_range hj] at hp
       exact ⟨hj,hp⟩
      ·rw [List.getElem?_eq_none (by simp;omega)] at hp
       cases hp
     have:=R.slice (X:=Jc W) 4 (Au.pvs ((List.range len).map fun i=>(q i).1)) b o cap (fun j=>(q (j / 4)).2 (j % 4)) (fun p hp=>by
      rw [Nw] at hp
      obtain ⟨r,_,rfl⟩:=List.mem_map.1 hp
      rw [Px];rfl) (by decide) (by rw [Nw];simp;exact hl)
      (fun j p hp=>by
       obtain ⟨hj,_⟩:=hget j p hp
       have:=(hq (j / 4) hj).2 (j % 4) (by omega)
       rw [show j / 4*4+j % 4=j by omega] at this
       exact this)
      (fun j p hp=>by
       obtain ⟨hj,hp'⟩:=hget j p hp
       exact (Af5 (hq (j / 4) hj).1 hp').1)
      (fun j p hp=>by
       obtain ⟨hj,hp'⟩:=hget j p hp
       exact (Af5 (hq (j / 4) hj).1 hp').2)
     rw [Nw,List.length_map,hlen'] at this
     show R (Jc W) (.slice 4 (Au.pvs _)) _
     rw [Nw]
     exact this
set_option maxRecDepth 20000 in
theorem raws_arg {H:Type} {enc:TypeId × Value→H} {W:World} {base:Nat} {v:Value} {d:DataW H} {p:List MemPlace} (hv:Value.okWide PG W .any base Ha v) (h:DataW.Trod enc PG W 0 (fun _=>true) true Ha v d p) :
  ∃ nl l,F6 nl l∧Au.oks l∧R (Jc W) (A1 nl l) v:=by
 obtain ⟨a0,len0,cap0,rfl⟩:=okWide_slice Aje hv
 obtain ⟨fuel,hf⟩:=h
 obtain ⟨nl,l,v,e,h1,h2,h3,_⟩:=Apu fuel _ _ hf
 simp [Value.cells] at e
 subst e
 exact ⟨nl,l,h1,h2,h3⟩
open Go Go.RowKit
open Go.Proofs.YtdlkibeljkapeaaGreatDoor.B
def rA:PV:=.agg [.atom 0, .atom 1, .atom 2, .atom 3]
noncomputable abbrev Zf (k:Nat) (r:PV) (fs:List Ao):Bool:=A0 r (Am PG (Aj An (.prim Fh [.atom 0,nI 20] (nI k)::fs)) 20 M7 [rA] [])
def mkL:List Ao:=[oI .quo (.atom 1) (nI 7) (.atom 5), .prim Qo [.atom 1, .atom 5, .atom 2] (.agg [.atom 6, .atom 7, .atom 8, .atom 9])]
theorem Aue:((List.range 5).all fun k=>Zf k (Ew (nI 1) (.str []) (.atom 6) (.atom 7) (.atom 8) (.atom 9) .nilslice) mkL)=true:=by kernel_rfl
def Ii:List (List UInt8):=[[97],[98],[99],[100],[101],[102]]
theorem Auu:((List.range 4).all fun k=>(List.range 6).all fun c=>Zf (5+k) (Ew (nI 2) (.str (Ii.getD c [])) (nI 0) (nI 0) (nI 0) (.str []) .nilslice) [.prim Fh [.atom 1,nI 6] (nI c)])=true:=by kernel_rfl
theorem Awb:((List.range 3).all fun k=>Zf (9+k) (F7 ((3+k:Nat):Int)) [.prim M6 [rA,nI 0] (eA 30)])=true:=by kernel_rfl
theorem Auh:((List.range 8).all fun k=>(List.range 9).all fun i=>Zf (12+k) (I5 ((6+i:Nat):Int)) [oI .add (.atom 1) (nI (12+k:Nat)) (.atom 10), .prim Fh [.atom 10,nI 9] (nI i), .prim M6 [rA,nI 0] (eA 30), .prim M6 [rA,nI 1] (eA 60)])=true:=by kernel_rfl
def paL (b:Bool) (i:Nat):List Ao:=[.op (.len Ha) [.atom 3] (.atom 11),oI .lss (nI i) (.atom 11) (.bool b)]
theorem Awt:((List.range 2).all fun i=>A0 (eA 30) (Am PG (Aj An (paL true i++[.op (.ix Ha) [.atom 3,nI i] (.ref [.atom 12, .atom 13, .atom 14, .atom 15]), .prim M7 [.agg [.atom 12, .atom 13, .atom 14, .atom 15]] (eA 30)])) 20 M6 [rA,nI i] []))=true:=by kernel_rfl
theorem Axb:((List.range 2).all fun i=>(List.range 5).all fun c=>A0 (Ew (nI 1) (.str []) (nI 2) (nI ((c:Int) - 2)) (nI 0) (.str []) .nilslice) (Am PG (Aj An (paL false i++[oI .add (.atom 1) (nI i) (.atom 10), .prim Fh [.atom 10,nI 5] (nI c)])) 20 M6 [rA,nI i] []))=true:=by kernel_rfl
theorem Atv {n:Int} (hn : -9223372036854775808≤n∧n≤9223372036854775807):Ie (2,n,0,[]) (Br n++A9 n 0)∧Hk (Br n++A9 n 0):=by
 have hl:=(Jv (n:=n) (k:=0) hn (by decide)).2
 have hw:(A9 n 0).length≤100:=by unfold A9;rw [List.length_take];omega
 have hsg:(Br n).length≤1:=by unfold Br;split<;>simp
 exact ⟨⟨by rw [List.length_append];omega,Alh hn (by decide),Aii hn,Aho hn,fun hs hi hg hr h=>Ajf hs hi hg hr hn h⟩,Wb (O2 hn (by decide)).1 _⟩
theorem Ah3 {rec:List Au→Int} (h0:∀ l,0≤rec l):∀ (l:List Au) (n m:Int),If rec l n=some m→n≤m
 | [],n,m,h=>by cases h;omega
 | x::xs,n,m,h=>by
  unfold If at h
  split at h
  ·split at h
   ·cases h
   ·have:=Ah3 h0 xs _ _ h
    have:=h0 x.l
    omega
  ·cases h;omega
theorem Ag5 {rec:List Au→Int} (h0:∀ l,0≤rec l):∀ (l:List Au) (n:Int),(If rec l n).getD 1000≤16→0≤n→∀ x∈l,x.s.length≤100∧rec x.l≤16
 | [],_,_,_=>by simp
 | x::xs,n,h,hn=>by
  unfold If at h
  split at h
  ·split at h
   ·simp at h
   ·intro y hy
    cases hs:If rec xs (n+1+rec x.l) with
    | none=>rw [hs] at h;simp at h
    | some m =>
     have h1:=h
     rw [hs] at h1
     simp only [Option.getD_some] at h1
     have h2:=Ah3 h0 xs _ _ hs
     have:=h0 x.l
     rcases List.mem_cons.1 hy with rfl|hy
     ·exact ⟨by omega,by omega⟩
     ·exact Ag5 h0 xs _ h (by omega) y hy
  ·simp only [Option.getD_some] at h
   omega
theorem Ahj {d:Nat} {l:List Au} (h:Dx d l≤16):∃ d',d=d'+1∧∀ x∈l,x.s.length≤100∧Dx d' x.l≤16:=by
 cases d with
 | zero=>simp [Dx] at h
 | succ d'=>exact ⟨d',rfl,fun x hx=>Ag5 (fun l=>(Abo d' l).1) l 0 h (by decide) x hx⟩
def Gh (r:Au) (v:V4) (q:Int) (n11:PV) (x:Au) (e f:E7):List PV:=[nI r.k,nI r.n, .str r.s,A1 r.nl r.l,nI 0,nI (Ak (r.n.tdiv 7)),nI v.1,nI v.2.1,nI v.2.2.1, .str v.2.2.2,nI q,n11,nI x.k,nI x.n, .str x.s,A1 x.nl x.l]++(List.replicate 14 (nI 0)++(e.L++(List.replicate 23 (nI 0)++f.L)))
theorem Uo {r:Au} {v:V4} {q n11:Int} {x:Au} {e f:E7} (he:e.ok=true) (hf:f.ok=true):Bc (Ab (Gh r v q (nI n11) x e f)):=by
 refine Ap ?_
 unfold Gh
 have h1:=Ja r.nl r.l
 have h2:=Ja x.nl x.l
 rw [List.all_append,List.all_append,List.all_append,List.all_append,show (e.L.all fun p=>p.clean&&p.pure)=true from he,show (f.L.all fun p=>p.clean&&p.pure)=true from hf]
 simp only [List.all_cons,h1.1,h1.2.1,h2.1,h2.2.1]
 rfl
theorem Acg {nu:Nat→PV} {r:Au} (h0:nu 0=nI r.k) (h1:nu 1=nI r.n) (h2:nu 2 = .str r.s) (h3:nu 3=A1 r.nl r.l):subD nu rA=r.pv∧(E2 nu rA&&rA.shut)=true:=by
 have e:subD nu rA=r.pv:=by
  show PV.agg [nu 0,nu 1,nu 2,nu 3]=_
  rw [h0,h1,h2,h3,Px]
 refine ⟨e,?_⟩
 show ((subD nu rA).pure&&true&&true)=true
 rw [e,Aji];rfl
open Go Go.RowKit
open Go.Proofs.YtdlkibeljkapeaaGreatDoor.B
theorem E7.ps {r:E7} (h:r.ok=true):(r.pv.pure&&r.pv.shut2)=true:=by
 have h1:=E7.pure h
 simp only [E7.ok,E7.L,List.all_cons,List.all_nil,Bool.and_eq_true,Bool.and_true] at h
 rw [h1,Bool.true_and]
 simp [E7.pv,E7.L,PV.shut2,PV.shut,h]
structure Ado (g:FuncId) (args:List PV) (d:Nat) (e:Xp):Prop where
 wf:e.wf
 dp:e.dpt≤2*d
 len:e.txt.length≤400*2 ^ d - 100
 ev:Ev PG g args e.e7.pv
theorem Aun:∀ c,c < 6→(Xp.col (Ii.getD c [])).wf:=by
 have hk:((List.range 6).all fun c=>match Ii.getD c [] with|c::r=>Hg c&&r.all Fo&&Nat.ble r.length 11 && !Bq.contains (c::r) | []=>false)=true:=by kernel_rfl
 intro c hc
 have:=List.all_eq_true.1 hk c (by rw [List.mem_range];omega)
 cases hq:Ii.getD c [] with
 | nil=>rw [hq] at this;cases this
 | cons a r =>
  rw [hq] at this
  simp only [Bool.and_eq_true,Nat.ble_eq,Bool.not_eq_true'] at this
  exact ⟨a,r,rfl,this.1.1.1,this.1.1.2,this.1.2,this.2⟩
theorem wN (n:Int) (m:Int) (h0:0 < m) (h1:m≤1000):∃ k:Nat,C7 n m=k∧(k:Int) < m:=by
 obtain ⟨k,h2,h3⟩:=Arw n m.toNat (by omega) (by omega)
 have e:((m.toNat:Nat):Int)=m:=by omega
 rw [e] at h2
 exact ⟨k,h2,by omega⟩
theorem Aj3 (d:Nat):1≤2 ^ d:=Nat.one_le_two_pow
theorem Alp {r:Au} (h:r.ok):(In64 r.k∧In64 r.n)∧F6 r.nl r.l∧Au.oks r.l:=by cases r;exact h
set_option maxRecDepth 20000 in
theorem Air {d:Nat} (ih:∀ r:Au,r.ok→r.s.length≤100→Dx d r.l≤16→∃ e,Ado M7 [r.pv] d e) {r:Au} (hr:r.ok) (hf:∀ x∈r.l,x.s.length≤100∧Dx d x.l≤16) {i:Nat} (hi:i < 2):∃ e,Ado M6 [r.pv,nI i] d e:=by
 have hro:=Alp hr
 have hp2:=Aj3 d
 have hmem:i∈List.range 2:=by rw [List.mem_range];exact hi
 have hg:∀ (e f:E7),e.ok=true→f.ok=true→∀ q n11 v x,Bc (Ab (Gh r v q (nI n11) x e f)):=fun e f he hf q n11 v x=>Uo he hf
 have hargs:∀ nu:Nat→PV,nu 0=nI r.k→nu 1=nI r.n→nu 2 = .str r.s→nu 3=A1 r.nl r.l→([rA,nI i].all (fun p=>E2 nu p&&p.shut)=true)∧[rA,nI i].map (subD nu)=[r.pv,nI i]:=fun nu h0 h1 h2 h3=>by
  have:=Acg h0 h1 h2 h3
  refine ⟨?_,?_⟩
  ·simp only [List.all_cons,this.2];rfl
  ·show [subD nu rA,nI i]=_
   rw [this.1]
 by_cases hil:i < r.l.length
 ·obtain ⟨x,hx⟩:∃ x,r.l[i]? = some x:=⟨_,List.getElem?_eq_getElem hil⟩
  have hxm:=hf x (List.mem_of_getElem? hx)
  obtain ⟨e,he⟩:=ih x (Xv hro.2.2 hx) hxm.1 hxm.2
  refine ⟨e,he.wf,he.dp,he.len,?_⟩
  have ha:=hargs (Ab (Gh r v0 0 (nI r.l.length) x e.e7 e.e7)) rfl rfl rfl rfl
  have hev:=he.ev
  rw [Px] at hev
  have:=Ev.facts (nu:=Ab (Gh r v0 0 (nI r.l.length) x e.e7 e.e7)) (args:=[rA,nI i]) (r:=eA 30) Af (hg _ _ (Bg e) (Bg e) _ _ _ _) (As (List.all_eq_true.1 Awt i hmem))
   ⟨⟨Oo hro.2.1,rfl⟩,Av (c:=true) (a:=i) (b:=r.l.length) rfl rfl rfl (by simp only [Aq];rw [decide_eq_true (by omega)]) (by decide) rfl,⟨Ab1 hro.2.1 hx,rfl⟩,Ai hev rfl rfl rfl,trivial⟩ ha.1
   (E7.ps (Bg e))
  rw [ha.2] at this
  exact this
 ·obtain ⟨c,hw,hc⟩:=wN (Ak (r.n+i)) 5 (by decide) (by decide)
  have hn : -9223372036854775808≤((c:Int) - 2)∧((c:Int) - 2)≤9223372036854775807:=by omega
  have hl:=Atv hn
  refine ⟨.lit (2,(c:Int) - 2,0,[]) _,hl,Nat.zero_le _,?_,?_⟩
  ·exact Nat.le_trans hl.1.len (by omega)
  ·have ha:=hargs (Ab (Gh r v0 (Ak (r.n+i)) (nI r.l.length) r E7.zero E7.zero)) rfl rfl rfl rfl
   have hwe:=Iu (Ak (r.n+i)) 5 (by decide)
   rw [hw] at hwe
   have:=Ev.facts (nu:=Ab (Gh r v0 (Ak (r.n+i)) (nI r.l.length) r E7.zero E7.zero)) (args:=[rA,nI i]) Af (hg _ _ rfl rfl _ _ _ _) (As (List.all_eq_true.1 (List.all_eq_true.1 Axb i hmem) c (by rw [List.mem_range];omega)))
    ⟨⟨Oo hro.2.1,rfl⟩,Av (c:=false) (a:=i) (b:=r.l.length) rfl rfl rfl (by simp only [Aq];rw [decide_eq_false (by omega)]) (by decide) rfl,Bm (a:=r.n) (b:=i) rfl rfl rfl rfl (by decide) rfl,Ai hwe rfl rfl rfl,trivial⟩ ha.1 rfl
   rw [ha.2] at this
   exact this
theorem Ajy (b:Bool) (n:Nat):Is b n≤n+1:=by cases b<;>simp [Is]
theorem wB:∀ k:Nat,k < 20→k < 5∨(∃ j,j < 4∧k=5+j)∨(∃ j,j < 3∧k=9+j)∨(∃ j,j < 8∧k=12+j):=fun k h=>by
 by_cases h1:k < 5
 ·exact .inl h1
 ·by_cases h2:k < 9
  ·exact .inr (.inl ⟨k - 5,by omega,by omega⟩)
  ·by_cases h3:k < 12
   ·exact .inr (.inr (.inl ⟨k - 9,by omega,by omega⟩))
   ·exact .inr (.inr (.inr ⟨k - 12,by omega,by omega⟩))
set_option maxRecDepth 20000 in
theorem Acb:∀ (d:Nat) (r:Au),r.ok→r.s.length≤100→Dx d r.l≤16→∃ e,Ado M7 [r.pv] d e
 | 0,r,_,_,h=>by simp [Dx] at h
 | d+1,r,hr,hs,h=>by
  obtain ⟨d',hd,hf⟩:=Ahj h
  obtain rfl:d=d':=by omega
  have hro:=Alp hr
  have hp2:=Aj3 d
  have hp3:2 ^ (d+1)=2*2 ^ d:=by rw [Nat.pow_succ];omega
  obtain ⟨k,hw,hk⟩:=wN r.k 20 (by decide) (by decide)
  have hwe:=Iu r.k 20 (by decide)
  rw [hw] at hwe
  have hargs:∀ nu:Nat→PV,nu 0=nI r.k→nu 1=nI r.n→nu 2 = .str r.s→nu 3=A1 r.nl r.l→([rA].all (fun p=>E2 nu p&&p.shut)=true)∧[rA].map (subD nu)=[r.pv]:=fun nu h0 h1 h2 h3=>by
   have:=Acg h0 h1 h2 h3
   refine ⟨?_,?_⟩
   ·simp only [List.all_cons,this.2];rfl
   ·show [subD nu rA]=_
    rw [this.1]
  obtain ⟨a,ha⟩:=Air (Acb d) hr hf (i:=0) (by decide)
  obtain ⟨b,hb⟩:=Air (Acb d) hr hf (i:=1) (by decide)
  have hia:=Qw a.leaf a.txt
  have hib:=Qw b.leaf b.txt
  have hda:=Ajy a.leaf a.dpt
  have hdb:=Ajy b.leaf b.dpt
  have hla:=ha.len
  have hlb:=hb.len
  have hpa:=ha.dp
  have hpb:=hb.dp
  have fun1:∀ (e f:E7) (q:Int) (v:V4),[PV.atom 0,nI 20].map (subD (Ab (Gh r v q (nI 0) r e f)))=[nI r.k,nI 20]:=fun e f q v=>rfl
  have hA:∀ (e f:E7) (q:Int) (v:V4),Dz PG (Ab (Gh r v q (nI 0) r e f)) (.prim Fh [.atom 0,nI 20] (nI k)):=fun e f q v=>Ai hwe rfl rfl rfl
  have hP:∀ (q:Int) (v:V4),Dz PG (Ab (Gh r v q (nI 0) r a.e7 b.e7)) (.prim M6 [rA,nI 0] (eA 30))∧Dz PG (Ab (Gh r v q (nI 0) r a.e7 b.e7)) (.prim M6 [rA,nI 1] (eA 60)):=fun q v=>by
   have:=Acg (nu:=Ab (Gh r v q (nI 0) r a.e7 b.e7)) (r:=r) rfl rfl rfl rfl
   exact ⟨Ai ha.ev (by show [subD _ rA,nI 0]=_;rw [this.1];rfl) rfl rfl,Ai hb.ev (by show [subD _ rA,nI 1]=_;rw [this.1];rfl) rfl rfl⟩
  rcases wB k (by omega) with h5|⟨j,hj,rfl⟩|⟨j,hj,rfl⟩|⟨j,hj,rfl⟩
  ·have h7 : -9223372036854775808≤r.n.tdiv 7∧r.n.tdiv 7≤9223372036854775807:=by
    have:=hro.1.2
    have h1:(r.n.tdiv 7).natAbs=r.n.natAbs / 7:=Int.natAbs_tdiv r.n 7
    omega
   have e7:Ak (r.n.tdiv 7)=r.n.tdiv 7:=Dn h7.1 h7.2
   obtain ⟨N,S,st,hm,he⟩:=Abv r.n (Ak (r.n.tdiv 7)) r.s hro.1.2 (by rw [e7];unfold I64;omega) (by omega)
   obtain ⟨t,ht,hnb⟩:=Abz hm hm.v.i
   have htl:=ht.len
   refine ⟨.lit (r.n % 6,N,(S:Nat),st.data.toList) t,⟨ht,hnb⟩,Nat.zero_le _,by show t.length≤_;omega,?_⟩
   have hh:=hargs (Ab (Gh r (r.n % 6,N,(S:Nat),st.data.toList) 0 (nI 0) r E7.zero E7.zero)) rfl rfl rfl rfl
   have:=Ev.facts (nu:=Ab (Gh r (r.n % 6,N,(S:Nat),st.data.toList) 0 (nI 0) r E7.zero E7.zero)) (args:=[rA]) Af (Uo rfl rfl) (As (List.all_eq_true.1 Aue k (by rw [List.mem_range];exact h5)))
    ⟨hA _ _ _ _,Bm rfl rfl rfl rfl (by decide) rfl,Ai he rfl rfl rfl,trivial⟩ hh.1 rfl
   rw [hh.2] at this
   exact this
  ·obtain ⟨c,hw2,hc⟩:=wN r.n 6 (by decide) (by decide)
   have hwe2:=Iu r.n 6 (by decide)
   rw [hw2] at hwe2
   refine ⟨.col (Ii.getD c []),Aun c (by omega),Nat.zero_le _,?_,?_⟩
   ·have:∀ c,c < 6→(Ii.getD c []).length≤1:=by decide
    have:=this c (by omega)
    show (Ii.getD c []).length≤_
    omega
   ·have hh:=hargs (Ab (Gh r v0 0 (nI 0) r E7.zero E7.zero)) rfl rfl rfl rfl
    have:=Ev.facts (nu:=Ab (Gh r v0 0 (nI 0) r E7.zero E7.zero)) (args:=[rA]) Af (Uo rfl rfl) (As (List.all_eq_true.1 (List.all_eq_true.1 Auu j (by rw [List.mem_range];exact hj)) c (by rw [List.mem_range];omega)))
     ⟨hA _ _ _ _,Ai hwe2 rfl rfl rfl,trivial⟩ hh.1 rfl
    rw [hh.2] at this
    exact this
  ·have hh:=hargs (Ab (Gh r v0 0 (nI 0) r a.e7 b.e7)) rfl rfl rfl rfl
   have hev:=Ev.facts (nu:=Ab (Gh r v0 0 (nI 0) r a.e7 b.e7)) (args:=[rA]) Af (Uo (Bg a) (Bg b)) (As (List.all_eq_true.1 Awb j (by rw [List.mem_range];exact hj)))
     ⟨hA _ _ _ _,(hP 0 v0).1,trivial⟩ hh.1
     (E7.ps (r:=E7.un ((3+j:Nat):Int) a.e7) (E7.un_ok (Bg a)))
   rw [hh.2] at hev
   have h3:j=0∨j=1∨j=2:=by omega
   rcases h3 with rfl|rfl|rfl
   ·refine ⟨.not a,ha.wf,?_,?_,hev⟩
    ·show Is a.leaf a.dpt+1≤_
     omega
    ·show ([110,111,116,32]++G8 a.leaf a.txt).length≤_
     simp only [List.length_append,List.length_cons,List.length_nil];omega
   ·refine ⟨.neg a,ha.wf,?_,?_,hev⟩
    ·show a.dpt+2≤_
     omega
    ·show ([45,40]++a.txt++[41]).length≤_
     simp only [List.length_append,List.length_cons,List.length_nil];omega
   ·refine ⟨.isn a,ha.wf,?_,?_,hev⟩
    ·show Is a.leaf a.dpt≤_
     omega
    ·show (G8 a.leaf a.txt++Im).length≤_
     rw [List.length_append,show Im.length=8 from rfl];omega
  ·obtain ⟨i,hw2,hi⟩:=wN (Ak (r.n+(12+j:Nat))) 9 (by decide) (by decide)
   have hwe2:=Iu (Ak (r.n+(12+j:Nat))) 9 (by decide)
   rw [hw2] at hwe2
   have hop:=Aix i (by omega)
   have hh:=hargs (Ab (Gh r v0 (Ak (r.n+(12+j:Nat))) (nI 0) r a.e7 b.e7)) rfl rfl rfl rfl
   have hev:=Ev.facts (nu:=Ab (Gh r v0 (Ak (r.n+(12+j:Nat))) (nI 0) r a.e7 b.e7)) (args:=[rA]) Af (Uo (Bg a) (Bg b)) (As (List.all_eq_true.1 (List.all_eq_true.1 Auh j (by rw [List.mem_range];exact hj)) i (by rw [List.mem_range];omega)))
     ⟨hA _ _ _ _,Bm (a:=r.n) (b:=(12+j:Nat)) rfl rfl rfl rfl (by decide) rfl,Ai hwe2 rfl rfl rfl,(hP _ v0).1,(hP _ v0).2,trivial⟩ hh.1
     (E7.ps (r:=E7.bin ((6+i:Nat):Int) a.e7 b.e7) (E7.bin_ok (Bg a) (Bg b)))
   rw [hh.2] at hev
   have hki:∀ i,i < 9→((6+i:Nat):Int)=(Df.getD i (0, "")).1:=by decide
   refine ⟨.op i a b,⟨by omega,ha.wf,hb.wf⟩,?_,?_,?_⟩
   ·show max (Is a.leaf a.dpt) (Is b.leaf b.dpt)≤_
    omega
   ·show (G8 a.leaf a.txt++[32]++Ek i++[32]++G8 b.leaf b.txt).length≤_
    simp only [List.length_append,List.length_cons,List.length_nil];omega
   ·show Ev PG M7 [r.pv] (E7.pv (E7.bin (Df.getD i (0, "")).1 a.e7 b.e7))
    rw [← hki i (by omega)]
    exact hev
open Go Go.RowKit
def Y0:PV:=Ew (nI 1) (.str []) (.atom 32) (.atom 33) (.atom 34) (.atom 35) .nilslice
def vX:PV:=.agg [.atom 32, .atom 33, .atom 34, .atom 35]
theorem Adj:([3,4,5].all fun k=>A0 (.bool true) (Am PG (Aj An [.prim Fj [eA 30,eA 30] (.bool true)]) 10 Fj [F7 k,F7 k] []))=true:=by kernel_rfl
theorem Avw:(Df.all fun q=>A0 (.bool true) (Am PG (Aj An [.prim Fj [eA 30,eA 30] (.bool true), .prim Fj [eA 60,eA 60] (.bool true)]) 10 Fj [I5 q.1,I5 q.1] []))=true:=by kernel_rfl
theorem Aus:A0 (.bool true) (Am PG (Aj An [.op (.bin .neq M8) [vX,vX] (.bool false)]) 10 Fj [Y0,Y0] [])=true:=by kernel_rfl
def Yt:PV:=Ew (nI 2) (.atom 1) (nI 0) (nI 0) (nI 0) (.str []) .nilslice
theorem Avx:A0 (.bool true) (Am PG (Aj An [.op (.bin .neq Ar) [.atom 1, .atom 1] (.bool false)]) 10 Fj [Yt,Yt] [])=true:=by kernel_rfl
theorem Ash:A0 (.bool true) (Am PG (Aj An []) 10 Fj [E7.zero.pv,E7.zero.pv] [])=true:=by kernel_rfl
def Amb (b0 b1 b2 b3:Bool):Option PV:=match (match b0 with|true=>(match b1 with|true=>(match b2 with|true=>(match b3 with|true=>some true|false=>some false)|false=>some false)|false=>some false)|false=>some false:Option Bool) with|some b=>some (PV.bool !b)|none=>none
theorem Awx (a b c a' b' c':Int) (s s':List UInt8):F5 PG .neq M8 (.agg [nI a,nI b,nI c, .str s]) (.agg [nI a',nI b',nI c', .str s'])=Amb (a==a') (b==b') (c==c') (s==s'):=by kernel_rfl
theorem Ahn (v:V4):F5 PG .neq M8 (Den.vP v) (Den.vP v)=some (.bool false):=by
 unfold Den.vP
 rw [Awx]
 simp [Amb]
theorem Nr {nu:Nat→PV} {p:PV} (h1:(subD nu p).pure=true) (h2:C9 nu p=true) (h3:p.shut=true):([p,p].all fun p=>E2 nu p&&p.shut)=true:=by
 simp only [List.all_cons,E2,h1,h2,h3];rfl
theorem Ln:∀ e:Xp,Ev PG Fj [e.e7.pv,e.e7.pv] (.bool true)
 | .lit v t=>Ev.facts (nu:=Ab (List.replicate 32 (nI 0)++[nI v.1,nI v.2.1,nI v.2.2.1, .str v.2.2.2])) (args:=[Y0,Y0]) Af (Ap rfl) (As Aus) ⟨⟨Ahn v,rfl⟩,trivial⟩ rfl rfl
 | .col w=>Ev.facts (nu:=Ab [nI 0, .str w]) (args:=[Yt,Yt]) Af (Ap rfl) (As Avx) ⟨Hr (l:=w) (m:=w) rfl rfl (show L8 .neq w w=some (.bool (w != w)) from rfl) (by simp [subD]) rfl,trivial⟩ rfl rfl
 | .neg a=>Ev.facts (nu:=Ab (H3 [] [] [] [] [] [] a.e7 a.e7)) (args:=[F7 4,F7 4]) Af (Iz (Bg a) (Bg a)) (As (List.all_eq_true.1 Adj 4 (by decide))) ⟨Ai (Ln a) rfl rfl rfl,trivial⟩ (Nr (E7.pure (E7.un_ok (k:=4) (Bg a))) rfl rfl) rfl
 | .not a=>Ev.facts (nu:=Ab (H3 [] [] [] [] [] [] a.e7 a.e7)) (args:=[F7 3,F7 3]) Af (Iz (Bg a) (Bg a)) (As (List.all_eq_true.1 Adj 3 (by decide))) ⟨Ai (Ln a) rfl rfl rfl,trivial⟩ (Nr (E7.pure (E7.un_ok (k:=3) (Bg a))) rfl rfl) rfl
 | .isn a=>Ev.facts (nu:=Ab (H3 [] [] [] [] [] [] a.e7 a.e7)) (args:=[F7 5,F7 5]) Af (Iz (Bg a) (Bg a)) (As (List.all_eq_true.1 Adj 5 (by decide))) ⟨Ai (Ln a) rfl rfl rfl,trivial⟩ (Nr (E7.pure (E7.un_ok (k:=5) (Bg a))) rfl rfl) rfl
 | .op k a b=>by
  by_cases hk:k < 9
  ·have hq:Df.getD k (0, "")∈Df:=by
    rw [List.getD_eq_getElem?_getD,List.getElem?_eq_getElem (show k < Df.length from hk)]
    exact List.getElem_mem _
   exact Ev.facts (nu:=Ab (H3 [] [] [] [] [] [] a.e7 b.e7)) (args:=[I5 (Df.getD k (0, "")).1,I5 (Df.getD k (0, "")).1]) Af (Iz (Bg a) (Bg b)) (As (List.all_eq_true.1 Avw _ hq)) ⟨Ai (Ln a) rfl rfl rfl,Ai (Ln b) rfl rfl rfl,trivial⟩
    (Nr (E7.pure (E7.bin_ok (k:=(Df.getD k (0, "")).1) (Bg a) (Bg b))) rfl rfl) rfl
  ·have e0:Df.getD k (0, "")=(0, ""):=by
    rw [List.getD_eq_getElem?_getD,List.getElem?_eq_none (show Df.length≤k by show 9≤k;omega)];rfl
   have h0:A0 (.bool true) (Am PG (Aj An [.prim Fj [eA 30,eA 30] (.bool true), .prim Fj [eA 60,eA 60] (.bool true)]) 10 Fj [I5 0,I5 0] [])=true:=by kernel_rfl
   show Ev PG Fj [E7.pv (E7.bin (Df.getD k (0, "")).1 a.e7 b.e7),E7.pv (E7.bin (Df.getD k (0, "")).1 a.e7 b.e7)] _
   rw [e0]
   exact Ev.facts (nu:=Ab (H3 [] [] [] [] [] [] a.e7 b.e7)) (args:=[I5 0,I5 0]) Af (Iz (Bg a) (Bg b)) (As h0) ⟨Ai (Ln a) rfl rfl rfl,Ai (Ln b) rfl rfl rfl,trivial⟩
    (Nr (E7.pure (E7.bin_ok (k:=0) (Bg a) (Bg b))) rfl rfl) rfl
open Go Go.RowKit
def S4 (b:Bool):List Ao:=[.op (.len Ha) [.atom 0] (.atom 1),oI .eql (.atom 1) (nI 0) (.bool b)]
def on2:List Ao:=[.op (.ix Ha) [.atom 0,nI 0] (.ref [.atom 2, .atom 3, .atom 4, .atom 5]), .prim M7 [.agg [.atom 2, .atom 3, .atom 4, .atom 5]] (eA 30)]
set_option maxRecDepth 20000 in
theorem Ave:A0 E7.zero.pv (Am PG (Aj An (S4 true)) 10 Kw [.atom 0] [])=true:=by kernel_rfl
set_option maxRecDepth 20000 in
theorem Auq:A0 (eA 30) (Am PG (Aj An (S4 false++on2)) 10 Kw [.atom 0] [])=true:=by kernel_rfl
def Axf:E7:=⟨nI 1, .str [],nI 1,nI 1,nI 0, .str [], .nilslice⟩
set_option maxRecDepth 20000 in
theorem As6:A0 Axf.pv (Am PG (Aj An (S4 true)) 10 Wt [.atom 0] [])=true:=by kernel_rfl
set_option maxRecDepth 20000 in
theorem At6:A0 (eA 30) (Am PG (Aj An (S4 false++on2)) 10 Wt [.atom 0] [])=true:=by kernel_rfl
def Yo (nl:Nat) (l:List Au) (r:Au) (e:E7):List PV:=[A1 nl l,nI l.length,nI r.k,nI r.n, .str r.s,A1 r.nl r.l]++(List.replicate 24 (nI 0)++e.L)
set_option maxRecDepth 20000 in
theorem Ain {nl:Nat} {l:List Au} {r:Au} {e:E7} (he:e.ok=true):Bc (Ab (Yo nl l r e)):=by
 refine Ap ?_
 unfold Yo
 have h1:=Ja nl l
 have h2:=Ja r.nl r.l
 rw [List.all_append,List.all_append,show (e.L.all fun p=>p.clean&&p.pure)=true from he]
 simp only [List.all_cons,h1.1,h1.2.1,h2.1,h2.2.1]
 rfl
set_option maxRecDepth 20000 in
theorem Ahc {nl:Nat} {l:List Au} {nu:Nat→PV} (h0:nu 0=A1 nl l):([PV.atom 0].all fun p=>E2 nu p&&p.shut)=true:=by
 have h1:=Ja nl l
 show (((nu 0).pure&&(nu 0).one)&&true&&true)=true
 rw [h0,h1.2.1,h1.2.2];rfl
set_option maxRecDepth 20000 in
theorem Agf {g:FuncId} {r:PV} (hk:A0 r (Am PG (Aj An (S4 true)) 10 g [.atom 0] [])=true) (hr:∀ nu:Nat→PV,subD nu r=r) (hp:(r.pure&&r.shut2)=true) {nl:Nat} {l:List Au} (hn:F6 nl l) (hl:l=[]):Ev PG g [A1 nl l] r:=by
 have:=Ev.facts (nu:=Ab (Yo nl l (.mk 0 0 [] 0 []) E7.zero)) (args:=[.atom 0]) Af (Ain rfl) (As hk) ⟨⟨Oo hn,rfl⟩,Av (c:=true) (a:=l.length) (b:=0) rfl rfl rfl (by rw [hl];rfl) (by decide) rfl,trivial⟩ (Ahc rfl) (by rw [hr];exact hp)
 rw [hr] at this
 exact this
set_option maxRecDepth 20000 in
theorem first_some {g:FuncId} (hk:A0 (eA 30) (Am PG (Aj An (S4 false++on2)) 10 g [.atom 0] [])=true) {nl:Nat} {l:List Au} (hn:F6 nl l) {r:Au} (hx:l[0]? = some r) {e:Xp} (h:Ev PG M7 [r.pv] e.e7.pv):Ev PG g [A1 nl l] e.e7.pv:=by
 have hl:l.length≠0:=by
  have:=(List.getElem?_eq_some_iff.1 hx).1
  omega
 rw [Px] at h
 exact Ev.facts (nu:=Ab (Yo nl l r e.e7)) (args:=[.atom 0]) (r:=eA 30) Af (Ain (Bg e)) (As hk) ⟨⟨Oo hn,rfl⟩,Av (c:=false) (a:=l.length) (b:=0) rfl rfl rfl (by simp only [Aq];simp [hl]) (by decide) rfl,⟨Ab1 hn hx,rfl⟩,Ai h rfl rfl rfl,trivial⟩ (Ahc rfl) (E7.ps (Bg e))
set_option maxRecDepth 20000 in
theorem Ax2 (b:Bool):Am PG (Aj An [.prim Hn [.atom 0,nI 0] (.atom 1),oI .leq (.atom 1) (nI 16) (.bool b)]) 5 Xg [.atom 0] []=some (.bool b,[]):=by cases b<;>kernel_rfl
def Ik (l:List Au):Bool:=decide (Dx 7 l≤16)
set_option maxRecDepth 20000 in
theorem Akc (nl:Nat) (l:List Au) (hn:F6 nl l) (ho:Au.oks l):Ev PG Xg [A1 nl l] (.bool (Ik l)):=by
 have hg:=Ja nl l
 have hs:Ev PG Hn [A1 nl l,nI 0] (nI (Dx 7 l)):=Ajp 7 (by decide) nl l hn ho
 refine Ev.facts Af (Ap (l:=[A1 nl l,nI (Dx 7 l)]) (by simp only [List.all_cons,hg.1,hg.2.1];rfl)) (Ax2 (Ik l)) ⟨Ai hs rfl rfl rfl,Av rfl rfl rfl rfl (by decide) rfl,trivial⟩ ?_ rfl
 show (((A1 nl l).pure&&(A1 nl l).one)&&true&&_)=true
 rw [hg.2.1,hg.2.2];rfl
structure J5 (e:Xp):Prop where
 wf:e.wf
 dp:e.dpt≤12
 len:e.txt.length≤25600
set_option maxRecDepth 20000 in
theorem Ahg {l:List Au} (ho:Au.oks l) (h:Ik l=true) {r:Au} (hx:l[0]? = some r):∃ e,J5 e∧Ev PG M7 [r.pv] e.e7.pv:=by
 simp only [Ik,decide_eq_true_eq] at h
 obtain ⟨d,hd,hf⟩:=Ahj h
 obtain rfl:d=6:=by omega
 have:=hf r (List.mem_of_getElem? hx)
 obtain ⟨e,he⟩:=Acb 6 r (Xv ho hx) this.1 this.2
 exact ⟨e,⟨he.wf,he.dp,by have:=he.len;omega⟩,he.ev⟩
set_option maxRecDepth 20000 in
theorem Au9 {nl:Nat} {l:List Au} (hn:F6 nl l) (ho:Au.oks l) (h:Ik l=true):(l=[]∧Ev PG Kw [A1 nl l] E7.zero.pv)∨(l≠[]∧∃ e,J5 e∧Ev PG Kw [A1 nl l] e.e7.pv):=by
 cases hx:l[0]? with
 | none =>
  have hl:l=[]:=by cases l with|nil=>rfl|cons a l=>simp at hx
  exact .inl ⟨hl,Agf Ave (fun _=>rfl) rfl hn hl⟩
 | some r =>
  obtain ⟨e,h1,h2⟩:=Ahg ho h hx
  exact .inr ⟨by intro e;rw [e] at hx;simp at hx,e,h1,first_some Auq hn hx h2⟩
set_option maxRecDepth 20000 in
theorem Asm:J5 (.lit (1,1,0,[]) [116,114,117,101]):=by
 have hk:=Al0
 rw [Bool.and_eq_true] at hk
 exact ⟨⟨⟨by simp,by simp,Nh hk.1,Nh hk.2,fun hs hi hg hr h=>Aim hs hi hg hr h⟩,rfl⟩,Nat.zero_le _,by show 4≤25600;decide⟩
set_option maxRecDepth 20000 in
theorem Atd {nl:Nat} {l:List Au} (hn:F6 nl l) (ho:Au.oks l) (h:Ik l=true):∃ e,J5 e∧Ev PG Wt [A1 nl l] e.e7.pv:=by
 cases hx:l[0]? with
 | none =>
  have hl:l=[]:=by cases l with|nil=>rfl|cons a l=>simp at hx
  exact ⟨_,Asm,Agf As6 (fun _=>rfl) rfl hn hl⟩
 | some r =>
  obtain ⟨e,h1,h2⟩:=Ahg ho h hx
  exact ⟨e,h1,first_some At6 hn hx h2⟩
set_option maxRecDepth 20000 in
theorem Ao2 (a:Nat):∀ w∈stops,Bn (Ade a) (kw w)=false:=by
 intro w hw
 simp only [stops,List.mem_cons,List.not_mem_nil,or_false] at hw
 rcases hw with rfl|rfl|rfl|rfl|rfl|rfl|rfl|rfl|rfl|rfl<;>rfl
open Go Go.RowKit
def Bt (w:String) (j:Nat):List Aa:=Jn (.atom 0) (nI 1) (.atom j) (.str (kw w)) (nI 0) (nI 0) (nI 0) (.str []) (.atom (j+1)) (nI 0)
def Et (n j:Nat):List Aa:=Jn (.atom 0) (nI 2) (.atom j) (.atom n) (nI 0) (nI 0) (nI 0) (.str []) (.atom (j+1)) (nI 0)
def Ee (m j:Nat):List Aa:=Jn (.atom 0) (nI 5) (.atom j) (.str (Be m)) (nI 0) (nI 0) (nI 0) (.str []) (.atom (j+1)) (nI 0)
def gS (j:Nat):List Aa:=Jn (.atom 0) (.atom (j+0)) (.atom (j+1)) (.atom (j+2)) (.atom (j+3)) (.atom (j+4)) (.atom (j+5)) (.atom (j+6)) (.atom (j+7)) (nI 0)
abbrev anyT (a:List Aa) (e:Nat) (b:List Aa):Ao:=.st M5 [.box 0 0] a (eA e) b
def Y9 (b:Bool):List Aa:=match b with|true=>Bt "where" 30|false=>gS 80
def Za (b:Bool):List Ao:=match b with|true=>[Bl (Bt "where" 30) (gS 50),anyT (gS 50) 70 (gS 80)]|false=>[D2 (gS 80) "where" false]
def wE (b:Bool):List PV:=match b with|true=>G7 70|false=>E7.zero.L
noncomputable abbrev P9 (st:List Aa) (r:PV) (fs:List Ao):Bool:=E1 r (gS 80) (Am PG (Aj An fs) 30 V3 [.box 0 0] st)
def Av7:List Ao:=[Bl (Bt "drop" 10) (Bt "table" 12),Bl (Bt "table" 12) (Et 2 14),Bl (Et 2 14) (gS 80)]
theorem Avq:P9 (Bt "drop" 10) (Cf (nI 2) Bh (.atom 2) (.str []) (.str []) .nilslice E7.zero.L E7.zero.L) Av7=true:=by kernel_rfl
def Awq:List Ao:=[Bl (Bt "alter" 10) (Bt "table" 12),Bl (Bt "table" 12) (Et 2 14),Bl (Et 2 14) (Bt "add" 16),Bl (Bt "add" 16) (Bt "foreign" 18),Bl (Bt "foreign" 18) (Bt "key" 20),Bl (Bt "key" 20) (Ee 2 22),Bl (Ee 2 22) (Et 3 24),Bl (Et 3 24) (Ee 3 26),Bl (Ee 3 26) (Bt "references" 28),Bl (Bt "references" 28) (Et 4 30),Bl (Et 4 30) (gS 80)]
theorem Avp:P9 (Bt "alter" 10) (Cf (nI 3) Bh (.atom 2) (.atom 3) (.atom 4) .nilslice E7.zero.L E7.zero.L) Awq=true:=by kernel_rfl
def Ay5 (b:Bool):List Ao:=[Bl (Bt "update" 10) (Et 2 12),Bl (Et 2 12) (Bt "set" 14),Bl (Bt "set" 14) (Et 3 16),Bl (Et 3 16) (Ee 6 18),Bl (Ee 6 18) (gS 40),anyT (gS 40) 60 (Y9 b)]++Za b
theorem Ak1:bl (fun b=>P9 (Bt "update" 10) (Cf (nI 5) Bh (.atom 2) (.atom 3) (.str []) .nilslice (G7 60) (wE b)) (Ay5 b))=true:=by kernel_rfl
def Az2 (b:Bool):List Ao:=[Bl (Bt "delete" 10) (Bt "from" 12),Bl (Bt "from" 12) (Et 2 14),Bl (Et 2 14) (Y9 b)]++Za b
theorem Ak4:bl (fun b=>P9 (Bt "delete" 10) (Cf (nI 6) Bh (.atom 2) (.str []) (.str []) .nilslice E7.zero.L (wE b)) (Az2 b))=true:=by kernel_rfl
def A0n (b:Bool):List Ao:=[Bl (Bt "select" 10) (Ee 10 12),Bl (Ee 10 12) (Bt "from" 14),Bl (Bt "from" 14) (Et 2 16),Bl (Et 2 16) (Y9 b)]++Za b
theorem Ako:bl (fun b=>P9 (Bt "select" 10) (Cf (nI 7) Bh (.atom 2) (.str []) (.str []) .nilslice E7.zero.L (wE b)) (A0n b))=true:=by kernel_rfl
def Az5 (b:Bool):List Ao:=[Bl (Bt "select" 10) (Bt "count" 12),Bl (Bt "count" 12) (Ee 2 14),Bl (Ee 2 14) (Ee 10 16),Bl (Ee 10 16) (Ee 3 18),Bl (Ee 3 18) (Bt "from" 20),Bl (Bt "from" 20) (Et 2 22),Bl (Et 2 22) (Y9 b)]++Za b
theorem Aks:bl (fun b=>P9 (Bt "select" 10) (Cf (nI 8) Bh (.atom 2) (.str []) (.str []) .nilslice E7.zero.L (wE b)) (Az5 b))=true:=by kernel_rfl
def cmS (n m:Nat):List Aa:=if m+1=n then Ee 3 20 else Ee 4 (190+2*m)
def Adl (n:Nat):List Ao:=[Bl (Bt "insert" 10) (Bt "into" 12),Bl (Bt "into" 12) (Et 2 14),Bl (Et 2 14) (Bt "values" 16),Bl (Bt "values" 16) (Ee 2 18),Bl (Ee 2 18) (gS 100),Bl (Ee 3 20) (gS 80)] ++
 ((List.range n).map (fun m=>.st I7 [.box 0 0] (gS (100+10*m)) (K7 (160+4*m)) (cmS n m))++(List.range (n - 1)).map (fun m=>Bl (Ee 4 (190+2*m)) (gS (100+10*(m+1)))))
def M3 (j:Nat):PV:=.agg [.atom j, .atom (j+1), .atom (j+2), .atom (j+3)]
theorem Auy:((List.range 5).all fun n=>P9 (Bt "insert" 10) (Cf (nI 4) Bh (.atom 2) (.str []) (.str []) (.slice 4 ((List.range (n+1)).map fun m=>M3 (160+4*m))) E7.zero.L E7.zero.L) (Adl (n+1)))=true:=by kernel_rfl
open Go Go.RowKit
inductive It where
 | w (w:List UInt8)
 | m (k:Nat)
 | x (e:Xp)
 | v (v:V4) (t:List UInt8)
def It.txt:It→List UInt8
 | .w a=>a
 | .m k=>Be k
 | .x e=>e.txt
 | .v _ t=>t
def It.wr:It→List UInt8→Prop
 | .x e,t=>Xp.wr e t
 | it,t=>t=it.txt
def H5:List UInt8→Bool
 | c::r=>Hg c&&(r.all Fo&&Nat.ble r.length 11)
 | []=>false
def It.wf:It→Prop
 | .w a=>H5 a=true
 | .m k=>k < 11∧k≠7
 | .x e=>e.wf∧e.dpt≤12
 | .v b t=>Ie b t∧Hk t
abbrev Pc:=Bool × It
def Amc (b:Bool) (g:List UInt8):Prop:=match b with|true=>Iq g|false=>g=[]
def Wr:List Pc→List UInt8→Prop
 | [],x=>x=[]
 | p::ps,x=>∃ g t r,Amc p.1 g∧p.2.wr t∧Wr ps r∧x=g++(t++r)
def sp (b:Bool):List UInt8:=match b with|true=>[32]|false=>[]
def B0:List Pc→List UInt8
 | []=>[]
 | p::ps=>sp p.1++(p.2.txt++B0 ps)
theorem Ar6 (b:Bool):Amc b (sp b):=by
 cases b with
 | true=>exact Iq.one
 | false=>exact rfl
theorem It.wr_txt:∀ it:It,it.wr it.txt
 | .w _=>rfl
 | .m _=>rfl
 | .x e=>e.wr_txt
 | .v _ _=>rfl
theorem Aj1:∀ ps:List Pc,Wr ps (B0 ps)
 | []=>rfl
 | p::ps=>⟨_,_,_,Ar6 p.1,p.2.wr_txt,Aj1 ps,rfl⟩
def endW:List UInt8→Bool
 | []=>true
 | c::_=>!Fo c&&c != 39
def jn:It→Pc→Bool
 | .m _,_=>true
 | .w _,(_, .m _)=>true
 | .w _,(b,_)=>b
 | _,(b, .m k)=>b||(Nat.beq k 3||(Nat.beq k 4||Nat.beq k 5))
 | _,(b,_)=>b
def Ff:List Pc→Bool
 | p::q::r=>jn p.2 q&&Ff (q::r)
 | _=>true
def Ru (s:List UInt8) (i j:Nat):It→Prop
 | .w w=>∃ a,Rd s i (Eq w a) j
 | .m k=>∃ a,Rd s i (D4 k a) j
 | .x e=>U5 s i j 0 e.e7
 | .v v _=>K1 s i j v
def Chain (s:List UInt8):List Pc→Nat→Nat→Prop
 | [],i,j=>i=j
 | p::ps,i,j=>∃ k,Ru s i k p.2∧Chain s ps k j
theorem Chain.append {s:List UInt8}:∀ {ps qs:List Pc} {i j:Nat},Chain s (ps++qs) i j→∃ k,Chain s ps i k∧Chain s qs k j
 | [],_,i,_,h=>⟨i,rfl,h⟩
 | _::_,_,_,_,⟨k,h1,h2⟩=>by
  obtain ⟨m,h3,h4⟩:=Chain.append h2
  exact ⟨m,⟨k,h1,h3⟩,h4⟩
theorem Uw:∀ {t:List UInt8},Gu t=true→endW t=true
 | [],_=>rfl
 | c::r,h=>by
  simp only [Gu,Bool.or_eq_true,beq_iff_eq] at h
  rcases h with (((rfl|rfl)|rfl)|rfl)|rfl<;>rfl
theorem As2:∀ k,k < 11→∃ c t,Be k=c::t∧Fo c=false∧c≠39:=by
 intro k hk
 have:((List.range 11).all fun m=>match Be m with|c::_=>!Fo c&&c != 39 | []=>false)=true:=by decide
 have:=List.all_eq_true.1 this k (by rw [List.mem_range];exact hk)
 cases hq:Be k with
 | nil=>rw [hq] at this;cases this
 | cons c t =>
  rw [hq] at this
  simp only [Bool.and_eq_true,Bool.not_eq_true',bne_iff_ne] at this
  exact ⟨c,t,rfl,this.1,this.2⟩
def Ak9 (it:It) (rest:List UInt8):Prop:=match it with | .m _=>True | .w _=>endW rest=true|_=>Gu rest=true
theorem Iy {p:Pc} {ps:List Pc} {x rest:List UInt8} (h:Wr (p::ps) x) (hb:p.1=true):Gu (x++rest)=true:=by
 obtain ⟨g,t,r,hg,_,_,rfl⟩:=h
 rw [hb] at hg
 obtain ⟨q,rfl,_⟩:=hg
 rfl
theorem Aax {b:Bool} {k:Nat} (hk:k < 11) {ps:List Pc} {x rest:List UInt8} (h:Wr ((b, .m k)::ps) x):endW (x++rest)=true∧((Nat.beq k 3||(Nat.beq k 4||Nat.beq k 5))=true→Gu (x++rest)=true):=by
 cases b with
 | true=>exact ⟨Uw (Iy h rfl),fun _=>Iy h rfl⟩
 | false =>
  obtain ⟨g,t,r,hg,ht,_,rfl⟩:=h
  obtain rfl:g=[]:=hg
  obtain rfl:t=Be k:=ht
  constructor
  ·obtain ⟨c,u,hc,h1,h2⟩:=As2 k hk
   rw [hc]
   show (!Fo c&&c != 39)=true
   rw [h1]
   simp [h2]
  ·intro h3
   simp only [Bool.or_eq_true,Nat.beq_eq] at h3
   rcases h3 with rfl|rfl|rfl<;>rfl
theorem Aod:∀ {t:List UInt8},endW t=true→Jw Fo t=true∧t[0]? ≠ some 39
 | [],_=>⟨rfl,by simp⟩
 | c::r,h=>by
  simp only [endW,Bool.and_eq_true,Bool.not_eq_true',bne_iff_ne] at h
  exact ⟨by show (!Fo c)=true;rw [h.1];rfl,by simpa using h.2⟩
section
variable {s:List UInt8} (hs:s.length≤4000)
include hs
theorem At5 {w:List UInt8} (hw:H5 w=true) {i:Nat} {g rest:List UInt8} (hi:i≤s.length) (hg:g.all Bf=true) (he:endW rest=true) (hd:s.drop i=g++(w++rest)):∃ j,Ru s i j (.w w)∧s.drop j=rest∧j≤s.length:=by
 cases w with
 | nil=>cases hw
 | cons c r =>
  simp only [H5,Bool.and_eq_true,Nat.ble_eq] at hw
  obtain ⟨h1,h2⟩:=Aod he
  have h:=Ky (s:=s) (by omega) hi hd hg hw.1 hw.2.1 h1 (fun _ _=>h2) hw.2.2
  have hd2:=B6 (g:=c::r) (B6 hd)
  have hl:i+g.length+(c::r).length≤s.length:=by
   have:=congrArg List.length hd
   simp only [List.length_drop,List.length_append] at this
   omega
  exact ⟨_,⟨_,h⟩,hd2,hl⟩
theorem Ath {k:Nat} (hk:k < 11∧k≠7) {i:Nat} {g rest:List UInt8} (hi:i≤s.length) (hg:g.all Bf=true) (hd:s.drop i=g++(Be k++rest)):∃ j,Ru s i j (.m k)∧s.drop j=rest∧j≤s.length:=by
 have h:=H9 (s:=s) (by omega) hi k hk.1 hk.2 hd hg
 have hd2:=B6 (g:=Be k) (B6 hd)
 have hl:i+g.length+(Be k).length≤s.length:=by
  have:=congrArg List.length hd
  simp only [List.length_drop,List.length_append] at this
  omega
 have e:(Be k).length=if k < 2 then 2 else 1:=by
  have:∀ k,k < 11→(Be k).length=if k < 2 then 2 else 1:=by decide
  exact this k hk.1
 rw [e] at hd2 hl
 exact ⟨_,⟨_,h⟩,hd2,hl⟩
theorem Ar8 {e:Xp} (he:e.wf∧e.dpt≤12) {t:List UInt8} (ht:e.wr t) {i:Nat} {g rest:List UInt8} (hi:i≤s.length) (hg:g.all Bf=true) (hr:Gu rest=true) (hd:s.drop i=g++(t++rest)):∃ j,Ru s i j (.x e)∧s.drop j=rest∧j≤s.length:=by
 have h:=Q2 hs e he.1 ht (dp:=0) hi hg hr hd (by omega)
 have hl:i+g.length+t.length≤s.length:=by
  have:=congrArg List.length hd
  simp only [List.length_drop,List.length_append] at this
  omega
 exact ⟨_,h,B6 (g:=t) (B6 hd),hl⟩
theorem Avu {v:V4} {t:List UInt8} (he:Ie v t) {i:Nat} {g rest:List UInt8} (hi:i≤s.length) (hg:g.all Bf=true) (hr:Gu rest=true) (hd:s.drop i=g++(t++rest)):∃ j,Ru s i j (.v v t)∧s.drop j=rest∧j≤s.length:=by
 have h:=he.rd hs hi hg hr hd
 have hl:i+g.length+t.length≤s.length:=by
  have:=congrArg List.length hd
  simp only [List.length_drop,List.length_append] at this
  omega
 exact ⟨_,h,B6 (g:=t) (B6 hd),hl⟩
theorem At3 {it:It} (hw:it.wf) {t:List UInt8} (ht:it.wr t) {i:Nat} {g rest:List UInt8} (hi:i≤s.length) (hg:g.all Bf=true) (hr:Ak9 it rest) (hd:s.drop i=g++(t++rest)):∃ j,Ru s i j it∧s.drop j=rest∧j≤s.length:=by
 match it,hw,ht,hr with
 | .w w,hw,ht,hr =>
  obtain rfl:t=w:=ht
  exact At5 hs hw hi hg hr hd
 | .m k,hw,ht,_ =>
  obtain rfl:t=Be k:=ht
  exact Ath hs hw hi hg hd
 | .x e,hw,ht,hr=>exact Ar8 hs hw ht hi hg hr hd
 | .v v t',hw,ht,hr =>
  obtain rfl:t=t':=ht
  exact Avu hs hw.1 hi hg hr hd
theorem Aif:∀ (ps:List Pc),ps≠[]→(∀ p∈ps,p.2.wf)→Ff ps=true→∀ {x g0 rest:List UInt8} {i:Nat},Wr ps x→i≤s.length→g0.all Bf=true→Gu rest=true→s.drop i=g0++(x++rest)→∃ j,Chain s ps i j∧s.drop j=rest∧j≤s.length
 | [],h,_,_,_,_,_,_,_,_,_,_,_=>absurd rfl h
 | (b,it)::ps,_,hw,ha,x,g0,rest,i,hx,hi,hg0,hr,hd=>by
  have hx':=hx
  obtain ⟨g,t,r,hg,ht,hps,rfl⟩:=hx
  have hgb:(g0++g).all Bf=true:=by
   rw [List.all_append,hg0,Bool.true_and]
   cases b with
   | true =>
    obtain ⟨q,rfl,hq⟩:=hg
    simpa [Bf] using hq
   | false =>
    obtain rfl:g=[]:=hg
    rfl
  have hd':s.drop i=(g0++g)++(t++(r++rest)):=by rw [hd];simp
  have hit:=hw (b,it) (by simp)
  have hfol:Ak9 it (r++rest):=by
   cases ps with
   | nil =>
    obtain rfl:r=[]:=hps
    rw [List.nil_append]
    cases it with
    | w _=>exact Uw hr
    | m _=>trivial
    | x _=>exact hr
    | v _ _=>exact hr
   | cons p qs =>
    obtain ⟨b2,it2⟩:=p
    have hw2:=hw (b2,it2) (by simp)
    simp only [Ff,Bool.and_eq_true] at ha
    have hj:=ha.1
    cases it with
    | m k=>trivial
    | w a =>
     cases it2 with
     | m k=>exact (Aax hw2.1 hps).1
     | w _=>exact Uw (Iy hps hj)
     | x _=>exact Uw (Iy hps hj)
     | v _ _=>exact Uw (Iy hps hj)
    | x e =>
     cases it2 with
     | m k =>
      simp only [jn,Bool.or_eq_true] at hj
      rcases hj with h|h
      ·exact Iy hps h
      ·exact (Aax hw2.1 hps).2 (by simpa using h)
     | w _=>exact Iy hps hj
     | x _=>exact Iy hps hj
     | v _ _=>exact Iy hps hj
    | v c tt =>
     cases it2 with
     | m k =>
      simp only [jn,Bool.or_eq_true] at hj
      rcases hj with h|h
      ·exact Iy hps h
      ·exact (Aax hw2.1 hps).2 (by simpa using h)
     | w _=>exact Iy hps hj
     | x _=>exact Iy hps hj
     | v _ _=>exact Iy hps hj
  obtain ⟨k,h1,h2,h3⟩:=At3 hs hit ht hi hgb hfol hd'
  cases ps with
  | nil =>
   obtain rfl:r=[]:=hps
   exact ⟨k,⟨k,h1,rfl⟩,h2,h3⟩
  | cons p qs =>
   have ha2:Ff (p::qs)=true:=by
    simp only [Ff,Bool.and_eq_true] at ha
    exact ha.2
   obtain ⟨j,h4,h5,h6⟩:=Aif (p::qs) (by simp) (fun q hq=>hw q (by simp at hq ⊢;exact .inr hq)) ha2 (g0:=[]) hps h3 rfl hr h2
   exact ⟨j,⟨k,h1,h4⟩,h5,h6⟩
end
open Go Go.RowKit
def Cb (k:Int) (T:List PV) (nm col dst:List UInt8) (row:PV) (e w:E7):PV:=Cf (nI k) T (.str nm) (.str col) (.str dst) row e.L w.L
def zok (z:Sg):Prop:=Bn z (kw "where")=false∧∀ w∈stops,Bn z (kw w)=false
def L9 (s:List UInt8) (i j:Nat) (S:PV):Prop:=∃ y tu,Rd s i y tu∧y.k≠0∧∀ z tz,Rd s j z tz→zok z→EvS PG V3 [.box 0 0] (Db s y tu 0) S (Db s z tz 0)
theorem D8 {s:List UInt8} {i j a:Nat} {w:String} (hk:Bq.contains (kw w)=true) (h:Rd s i (Eq (kw w) a) j):Rd s i ⟨1,a,kw w,v0,0⟩ j:=by
 unfold Eq at h
 rw [hk] at h
 exact h
theorem I2 {s:List UInt8} {i j a:Nat} {w:List UInt8} (hk:Bq.contains w=false) (h:Rd s i (Eq w a) j):Rd s i ⟨2,a,w,v0,0⟩ j:=by
 unfold Eq at h
 rw [hk] at h
 exact h
def p30 (l:List PV):List PV:=l++List.replicate (30 - l.length) (nI 0)
def Io (s nm col dst:List UInt8) (P:List PV) (y1:Sg) (t1:Nat) (y2:Sg) (t2:Nat) (e w:E7) (z:Sg) (tz:Nat):List PV :=
 [.str s,nI 0, .str nm, .str col, .str dst,nI 0,nI 0,nI 0,nI 0,nI 0]++(P++(sv y1 t1++([nI 0,nI 0]++(sv y2 t2++([nI 0,nI 0]++(e.L++([nI 0,nI 0,nI 0]++(w.L++([nI 0,nI 0,nI 0]++sv z tz)))))))))
theorem Jd {s nm col dst:List UInt8} {P:List PV} {y1:Sg} {t1:Nat} {y2:Sg} {t2:Nat} {e w:E7} {z:Sg} {tz:Nat} (hP:(P.all fun p=>p.clean&&p.pure)=true) (he:e.ok=true) (hw:w.ok=true):Bc (Ab (Io s nm col dst P y1 t1 y2 t2 e w z tz)):=by
 refine Ap ?_
 have h1:(e.L.all fun p=>p.clean&&p.pure)=true:=he
 have h2:(w.L.all fun p=>p.clean&&p.pure)=true:=hw
 unfold Io
 simp only [List.all_append,hP,h1,h2]
 rfl
def D3 (w:Option Xp):List Pc:=match w with|none=>[]|some e=>[(true, .w (kw "where")),(true, .x e)]
def wX (w:Option Xp):E7:=match w with|none=>E7.zero|some e=>e.e7
theorem D9 (w:Option Xp):(wX w).ok=true:=by
 cases w with
 | none=>rfl
 | some e=>exact Bg e
theorem Nq {k:Int} {nm col dst:List UInt8} {e w:E7} (he:e.ok=true) (hw:w.ok=true):(Cb k Bh nm col dst .nilslice e w).pure=true:=by
 simp only [E7.ok,E7.L,List.all_cons,List.all_nil,Bool.and_eq_true,Bool.and_true] at he hw
 simp [Cb,Cf,Bh,E7.L,PV.pure,PV.pureL,he,hw]
theorem An2 (a:Int):∀ w∈stops,Bn ⟨1,a,kw "where", v0,0⟩ (kw w)=false:=by
 intro w hw
 simp only [stops,List.mem_cons,List.not_mem_nil,or_false] at hw
 rcases hw with rfl|rfl|rfl|rfl|rfl|rfl|rfl|rfl|rfl|rfl<;>rfl
section
variable {s:List UInt8} {i j:Nat}
theorem Aua {nm:List UInt8} (hn:Bq.contains nm=false) (h:Chain s [(false, .w (kw "drop")),(true, .w (kw "table")),(true, .w nm)] i j):L9 s i j (Cb 2 Bh nm [] [] .nilslice E7.zero E7.zero):=by
 obtain ⟨t1,⟨a1,r1⟩,t2,⟨a2,r2⟩,t3,⟨a3,r3⟩,rfl⟩:=h
 have r1:=D8 (by decide +kernel) r1
 have r2:=D8 (by decide +kernel) r2
 have r3:=I2 hn r3
 refine ⟨_,_,r1,show (1:Int)≠0 by decide,fun z tz hz _=>?_⟩
 exact EvS.facts (nu:=Ab (Io s nm [] [] (p30 [nI a1,nI t1,nI a2,nI t2,nI a3,nI t3]) z tz z tz E7.zero E7.zero z tz)) (args:=[.box 0 0]) (s:=Bt "drop" 10) (s':=gS 80) Af (Jd rfl rfl rfl) (Dt Avq)
  ⟨Aw (A8 ⟨1,a1,kw "drop", v0,0⟩ 0 r2) rfl rfl rfl rfl rfl,Aw (A8 ⟨1,a2,kw "table", v0,0⟩ 0 r3) rfl rfl rfl rfl rfl,Aw (A8 ⟨2,a3,nm,v0,0⟩ 0 hz) rfl rfl rfl rfl rfl,trivial⟩ rfl rfl rfl
theorem Atk {nm col dst:List UInt8} (hn:Bq.contains nm=false) (hc:Bq.contains col=false) (hd:Bq.contains dst=false)
  (h:Chain s [(false, .w (kw "alter")),(true, .w (kw "table")),(true, .w nm),(true, .w (kw "add")),(true, .w (kw "foreign")),(true, .w (kw "key")),(true, .m 2),(false, .w col),(false, .m 3),(true, .w (kw "references")),(true, .w dst)] i j):L9 s i j (Cb 3 Bh nm col dst .nilslice E7.zero E7.zero):=by
 obtain ⟨t1,⟨a1,r1⟩,t2,⟨a2,r2⟩,t3,⟨a3,r3⟩,t4,⟨a4,r4⟩,t5,⟨a5,r5⟩,t6,⟨a6,r6⟩,t7,⟨a7,r7⟩,t8,⟨a8,r8⟩,t9,⟨a9,r9⟩,t10,⟨a10,r10⟩,t11,⟨a11,r11⟩,rfl⟩:=h
 have r1:=D8 (by decide +kernel) r1
 have r2:=D8 (by decide +kernel) r2
 have r3:=I2 hn r3
 have r4:=D8 (by decide +kernel) r4
 have r5:=D8 (by decide +kernel) r5
 have r6:=D8 (by decide +kernel) r6
 have r8:=I2 hc r8
 have r10:=D8 (by decide +kernel) r10
 have r11:=I2 hd r11
 refine ⟨_,_,r1,show (1:Int)≠0 by decide,fun z tz hz _=>?_⟩
 exact EvS.facts (nu:=Ab (Io s nm col dst (p30 [nI a1,nI t1,nI a2,nI t2,nI a3,nI t3,nI a4,nI t4,nI a5,nI t5,nI a6,nI t6,nI a7,nI t7,nI a8,nI t8,nI a9,nI t9,nI a10,nI t10,nI a11,nI t11]) z tz z tz E7.zero E7.zero z tz)) (args:=[.box 0 0]) (s:=Bt "alter" 10) (s':=gS 80) Af (Jd rfl rfl rfl) (Dt Avp)
  ⟨Aw (A8 ⟨1,a1,kw "alter", v0,0⟩ 0 r2) rfl rfl rfl rfl rfl,Aw (A8 ⟨1,a2,kw "table", v0,0⟩ 0 r3) rfl rfl rfl rfl rfl,Aw (A8 ⟨2,a3,nm,v0,0⟩ 0 r4) rfl rfl rfl rfl rfl,Aw (A8 ⟨1,a4,kw "add", v0,0⟩ 0 r5) rfl rfl rfl rfl rfl,Aw (A8 ⟨1,a5,kw "foreign", v0,0⟩ 0 r6) rfl rfl rfl rfl rfl,Aw (A8 ⟨1,a6,kw "key", v0,0⟩ 0 r7) rfl rfl rfl rfl rfl,
   Aw (A8 (D4 2 a7) 0 r8) rfl rfl rfl rfl rfl,Aw (A8 ⟨2,a8,col,v0,0⟩ 0 r9) rfl rfl rfl rfl rfl,Aw (A8 (D4 3 a9) 0 r10) rfl rfl rfl rfl rfl,Aw (A8 ⟨1,a10,kw "references", v0,0⟩ 0 r11) rfl rfl rfl rfl rfl,Aw (A8 ⟨2,a11,dst,v0,0⟩ 0 hz) rfl rfl rfl rfl rfl,trivial⟩ rfl rfl rfl
theorem Avo {nm:List UInt8} (hn:Bq.contains nm=false) {w:Option Xp} (h:Chain s ([(false, .w (kw "delete")),(true, .w (kw "from")),(true, .w nm)]++D3 w) i j):L9 s i j (Cb 6 Bh nm [] [] .nilslice E7.zero (wX w)):=by
 obtain ⟨t1,⟨a1,r1⟩,t2,⟨a2,r2⟩,t3,⟨a3,r3⟩,hw⟩:=h
 have r1:=D8 (by decide +kernel) r1
 have r2:=D8 (by decide +kernel) r2
 have r3:=I2 hn r3
 refine ⟨_,_,r1,show (1:Int)≠0 by decide,fun z tz hz hk=>?_⟩
 have hp:=Nq (k:=6) (nm:=nm) (col:=[]) (dst:=[]) (e:=E7.zero) rfl (D9 w)
 cases w with
 | none =>
  obtain rfl:t3=j:=hw
  exact EvS.facts (nu:=Ab (Io s nm [] [] (p30 [nI a1,nI t1,nI a2,nI t2,nI a3,nI t3]) z tz z tz E7.zero E7.zero z tz)) (args:=[.box 0 0]) (s:=Bt "delete" 10) (s':=gS 80) Af (Jd rfl rfl rfl) (Dt (Bo Ak4 false))
   ⟨Aw (A8 ⟨1,a1,kw "delete", v0,0⟩ 0 r2) rfl rfl rfl rfl rfl,Aw (A8 ⟨1,a2,kw "from", v0,0⟩ 0 r3) rfl rfl rfl rfl rfl,Aw (A8 ⟨2,a3,nm,v0,0⟩ 0 hz) rfl rfl rfl rfl rfl,C6 rfl hk.1 rfl,trivial⟩ rfl rfl rfl
 | some e =>
  obtain ⟨t4,⟨a4,r4⟩,t5,⟨y,tu,hy,ha⟩,rfl⟩:=hw
  have r4:=D8 (by decide +kernel) r4
  obtain ⟨h1,h2⟩:=ha z tz hz hk.2
  exact EvS.facts (nu:=Ab (Io s nm [] [] (p30 [nI a1,nI t1,nI a2,nI t2,nI a3,nI t3,nI 0,nI 0,nI 0,nI 0,nI 0,nI 0,nI 0,nI 0,nI 0,nI 0,nI 0,nI 0,nI 0,nI 0,nI a4,nI t4]) z tz y tu E7.zero e.e7 z tz)) (args:=[.box 0 0]) (s:=Bt "delete" 10) (s':=gS 80) Af (Jd rfl rfl (Bg e)) (Dt (Bo Ak4 true))
   ⟨Aw (A8 ⟨1,a1,kw "delete", v0,0⟩ 0 r2) rfl rfl rfl rfl rfl,Aw (A8 ⟨1,a2,kw "from", v0,0⟩ 0 r3) rfl rfl rfl rfl rfl,Aw (A8 ⟨2,a3,nm,v0,0⟩ 0 r4) rfl rfl rfl rfl rfl,Aw (A8 ⟨1,a4,kw "where", v0,0⟩ 0 hy) rfl rfl rfl rfl rfl,Aw h1 rfl rfl rfl rfl rfl,trivial⟩ rfl rfl (by rw [Bool.and_eq_true];exact ⟨hp,rfl⟩)
theorem Au6 {nm:List UInt8} (hn:Bq.contains nm=false) {w:Option Xp} (h:Chain s ([(false, .w (kw "select")),(true, .m 10),(true, .w (kw "from")),(true, .w nm)]++D3 w) i j):L9 s i j (Cb 7 Bh nm [] [] .nilslice E7.zero (wX w)):=by
 obtain ⟨t1,⟨a1,r1⟩,t2,⟨a2,r2⟩,t3,⟨a3,r3⟩,t4,⟨a4,r4⟩,hw⟩:=h
 have r1:=D8 (by decide +kernel) r1
 have r3:=D8 (by decide +kernel) r3
 have r4:=I2 hn r4
 refine ⟨_,_,r1,show (1:Int)≠0 by decide,fun z tz hz hk=>?_⟩
 have hp:=Nq (k:=7) (nm:=nm) (col:=[]) (dst:=[]) (e:=E7.zero) rfl (D9 w)
 cases w with
 | none =>
  obtain rfl:t4=j:=hw
  exact EvS.facts (nu:=Ab (Io s nm [] [] (p30 [nI a1,nI t1,nI a2,nI t2,nI a3,nI t3,nI a4,nI t4]) z tz z tz E7.zero E7.zero z tz)) (args:=[.box 0 0]) (s:=Bt "select" 10) (s':=gS 80) Af (Jd rfl rfl rfl) (Dt (Bo Ako false))
   ⟨Aw (A8 ⟨1,a1,kw "select", v0,0⟩ 0 r2) rfl rfl rfl rfl rfl,Aw (A8 (D4 10 a2) 0 r3) rfl rfl rfl rfl rfl,Aw (A8 ⟨1,a3,kw "from", v0,0⟩ 0 r4) rfl rfl rfl rfl rfl,Aw (A8 ⟨2,a4,nm,v0,0⟩ 0 hz) rfl rfl rfl rfl rfl,C6 rfl hk.1 rfl,trivial⟩ rfl rfl rfl
 | some e =>
  obtain ⟨t5,⟨a5,r5⟩,t6,⟨y,tu,hy,ha⟩,rfl⟩:=hw
  have r5:=D8 (by decide +kernel) r5
  obtain ⟨h1,h2⟩:=ha z tz hz hk.2
  exact EvS.facts (nu:=Ab (Io s nm [] [] (p30 [nI a1,nI t1,nI a2,nI t2,nI a3,nI t3,nI a4,nI t4,nI 0,nI 0,nI 0,nI 0,nI 0,nI 0,nI 0,nI 0,nI 0,nI 0,nI 0,nI 0,nI a5,nI t5]) z tz y tu E7.zero e.e7 z tz)) (args:=[.box 0 0]) (s:=Bt "select" 10) (s':=gS 80) Af (Jd rfl rfl (Bg e)) (Dt (Bo Ako true))
   ⟨Aw (A8 ⟨1,a1,kw "select", v0,0⟩ 0 r2) rfl rfl rfl rfl rfl,Aw (A8 (D4 10 a2) 0 r3) rfl rfl rfl rfl rfl,Aw (A8 ⟨1,a3,kw "from", v0,0⟩ 0 r4) rfl rfl rfl rfl rfl,Aw (A8 ⟨2,a4,nm,v0,0⟩ 0 r5) rfl rfl rfl rfl rfl,Aw (A8 ⟨1,a5,kw "where", v0,0⟩ 0 hy) rfl rfl rfl rfl rfl,Aw h1 rfl rfl rfl rfl rfl,trivial⟩ rfl rfl (by rw [Bool.and_eq_true];exact ⟨hp,rfl⟩)
theorem Auk {nm:List UInt8} (hn:Bq.contains nm=false) {w:Option Xp} (h:Chain s ([(false, .w (kw "select")),(true, .w (kw "count")),(false, .m 2),(false, .m 10),(false, .m 3),(true, .w (kw "from")),(true, .w nm)]++D3 w) i j):L9 s i j (Cb 8 Bh nm [] [] .nilslice E7.zero (wX w)):=by
 obtain ⟨t1,⟨a1,r1⟩,t2,⟨a2,r2⟩,t3,⟨a3,r3⟩,t4,⟨a4,r4⟩,t5,⟨a5,r5⟩,t6,⟨a6,r6⟩,t7,⟨a7,r7⟩,hw⟩:=h
 have r1:=D8 (by decide +kernel) r1
 have r2:=D8 (by decide +kernel) r2
 have r6:=D8 (by decide +kernel) r6
 have r7:=I2 hn r7
 refine ⟨_,_,r1,show (1:Int)≠0 by decide,fun z tz hz hk=>?_⟩
 have hp:=Nq (k:=8) (nm:=nm) (col:=[]) (dst:=[]) (e:=E7.zero) rfl (D9 w)
 cases w with
 | none =>
  obtain rfl:t7=j:=hw
  exact EvS.facts (nu:=Ab (Io s nm [] [] (p30 [nI a1,nI t1,nI a2,nI t2,nI a3,nI t3,nI a4,nI t4,nI a5,nI t5,nI a6,nI t6,nI a7,nI t7]) z tz z tz E7.zero E7.zero z tz)) (args:=[.box 0 0]) (s:=Bt "select" 10) (s':=gS 80) Af (Jd rfl rfl rfl) (Dt (Bo Aks false))
   ⟨Aw (A8 ⟨1,a1,kw "select", v0,0⟩ 0 r2) rfl rfl rfl rfl rfl,Aw (A8 ⟨1,a2,kw "count", v0,0⟩ 0 r3) rfl rfl rfl rfl rfl,Aw (A8 (D4 2 a3) 0 r4) rfl rfl rfl rfl rfl,Aw (A8 (D4 10 a4) 0 r5) rfl rfl rfl rfl rfl,Aw (A8 (D4 3 a5) 0 r6) rfl rfl rfl rfl rfl,Aw (A8 ⟨1,a6,kw "from", v0,0⟩ 0 r7) rfl rfl rfl rfl rfl,Aw (A8 ⟨2,a7,nm,v0,0⟩ 0 hz) rfl rfl rfl rfl rfl,C6 rfl hk.1 rfl,trivial⟩ rfl rfl rfl
 | some e =>
  obtain ⟨t8,⟨a8,r8⟩,t9,⟨y,tu,hy,ha⟩,rfl⟩:=hw
  have r8:=D8 (by decide +kernel) r8
  obtain ⟨h1,h2⟩:=ha z tz hz hk.2
  exact EvS.facts (nu:=Ab (Io s nm [] [] (p30 [nI a1,nI t1,nI a2,nI t2,nI a3,nI t3,nI a4,nI t4,nI a5,nI t5,nI a6,nI t6,nI a7,nI t7,nI 0,nI 0,nI 0,nI 0,nI 0,nI 0,nI a8,nI t8]) z tz y tu E7.zero e.e7 z tz)) (args:=[.box 0 0]) (s:=Bt "select" 10) (s':=gS 80) Af (Jd rfl rfl (Bg e)) (Dt (Bo Aks true))
   ⟨Aw (A8 ⟨1,a1,kw "select", v0,0⟩ 0 r2) rfl rfl rfl rfl rfl,Aw (A8 ⟨1,a2,kw "count", v0,0⟩ 0 r3) rfl rfl rfl rfl rfl,Aw (A8 (D4 2 a3) 0 r4) rfl rfl rfl rfl rfl,Aw (A8 (D4 10 a4) 0 r5) rfl rfl rfl rfl rfl,Aw (A8 (D4 3 a5) 0 r6) rfl rfl rfl rfl rfl,Aw (A8 ⟨1,a6,kw "from", v0,0⟩ 0 r7) rfl rfl rfl rfl rfl,Aw (A8 ⟨2,a7,nm,v0,0⟩ 0 r8) rfl rfl rfl rfl rfl,Aw (A8 ⟨1,a8,kw "where", v0,0⟩ 0 hy) rfl rfl rfl rfl rfl,Aw h1 rfl rfl rfl rfl rfl,trivial⟩ rfl rfl (by rw [Bool.and_eq_true];exact ⟨hp,rfl⟩)
theorem Aux {nm col:List UInt8} (hn:Bq.contains nm=false) (hc:Bq.contains col=false) {e:Xp} {w:Option Xp} (h:Chain s ([(false, .w (kw "update")),(true, .w nm),(true, .w (kw "set")),(true, .w col),(true, .m 6),(true, .x e)]++D3 w) i j):L9 s i j (Cb 5 Bh nm col [] .nilslice e.e7 (wX w)):=by
 obtain ⟨t1,⟨a1,r1⟩,t2,⟨a2,r2⟩,t3,⟨a3,r3⟩,t4,⟨a4,r4⟩,t5,⟨a5,r5⟩,t6,⟨y1,tu1,hy1,ha1⟩,hw⟩:=h
 have r1:=D8 (by decide +kernel) r1
 have r2:=I2 hn r2
 have r3:=D8 (by decide +kernel) r3
 have r4:=I2 hc r4
 refine ⟨_,_,r1,show (1:Int)≠0 by decide,fun z tz hz hk=>?_⟩
 have hp:=Nq (k:=5) (nm:=nm) (col:=col) (dst:=[]) (e:=e.e7) (Bg e) (D9 w)
 cases w with
 | none =>
  obtain rfl:t6=j:=hw
  obtain ⟨h3,_⟩:=ha1 z tz hz hk.2
  exact EvS.facts (nu:=Ab (Io s nm col [] (p30 [nI a1,nI t1,nI a2,nI t2,nI a3,nI t3,nI a4,nI t4,nI a5,nI t5]) y1 tu1 z tz e.e7 E7.zero z tz)) (args:=[.box 0 0]) (s:=Bt "update" 10) (s':=gS 80) Af (Jd rfl (Bg e) rfl) (Dt (Bo Ak1 false))
   ⟨Aw (A8 ⟨1,a1,kw "update", v0,0⟩ 0 r2) rfl rfl rfl rfl rfl,Aw (A8 ⟨2,a2,nm,v0,0⟩ 0 r3) rfl rfl rfl rfl rfl,Aw (A8 ⟨1,a3,kw "set", v0,0⟩ 0 r4) rfl rfl rfl rfl rfl,Aw (A8 ⟨2,a4,col,v0,0⟩ 0 r5) rfl rfl rfl rfl rfl,Aw (A8 (D4 6 a5) 0 hy1) rfl rfl rfl rfl rfl,Aw h3 rfl rfl rfl rfl rfl,C6 rfl hk.1 rfl,trivial⟩ rfl rfl (by rw [Bool.and_eq_true];exact ⟨hp,rfl⟩)
 | some f =>
  obtain ⟨t8,⟨a8,r8⟩,t9,⟨y,tu,hy,ha⟩,rfl⟩:=hw
  have r8:=D8 (by decide +kernel) r8
  obtain ⟨h1,h2⟩:=ha z tz hz hk.2
  obtain ⟨h3,_⟩:=ha1 _ _ r8 (An2 _)
  exact EvS.facts (nu:=Ab (Io s nm col [] (p30 [nI a1,nI t1,nI a2,nI t2,nI a3,nI t3,nI a4,nI t4,nI a5,nI t5,nI 0,nI 0,nI 0,nI 0,nI 0,nI 0,nI 0,nI 0,nI 0,nI 0,nI a8,nI t8]) y1 tu1 y tu e.e7 f.e7 z tz)) (args:=[.box 0 0]) (s:=Bt "update" 10) (s':=gS 80) Af (Jd rfl (Bg e) (Bg f)) (Dt (Bo Ak1 true))
   ⟨Aw (A8 ⟨1,a1,kw "update", v0,0⟩ 0 r2) rfl rfl rfl rfl rfl,Aw (A8 ⟨2,a2,nm,v0,0⟩ 0 r3) rfl rfl rfl rfl rfl,Aw (A8 ⟨1,a3,kw "set", v0,0⟩ 0 r4) rfl rfl rfl rfl rfl,Aw (A8 ⟨2,a4,col,v0,0⟩ 0 r5) rfl rfl rfl rfl rfl,Aw (A8 (D4 6 a5) 0 hy1) rfl rfl rfl rfl rfl,Aw h3 rfl rfl rfl rfl rfl,Aw (A8 ⟨1,a8,kw "where", v0,0⟩ 0 hy) rfl rfl rfl rfl rfl,Aw h1 rfl rfl rfl rfl rfl,trivial⟩ rfl rfl (by rw [Bool.and_eq_true];exact ⟨hp,rfl⟩)
end
open Go Go.RowKit
def Gt:Bool→List (V4 × List UInt8)→List Pc
 | _,[]=>[]
 | b,[v]=>[(b, .v v.1 v.2)]
 | b,v::w::vs=>(b, .v v.1 v.2)::(false, .m 4)::Gt true (w::vs)
structure Awm (s:List UInt8) (vs:List (V4 × List UInt8)) (i j:Nat) (P K A:Nat→Nat):Prop where
 p0:P 0=i
 k1:K (vs.length - 1)=j
 v:∀ m v,vs[m]? = some v→K1 s (P m) (K m) v.1
 a:∀ m,m+1 < vs.length→Rd s (K m) (D4 4 (A m)) (P (m+1))
theorem Ail {s:List UInt8}:∀ (vs:List (V4 × List UInt8)),vs≠[]→∀ {b:Bool} {i j:Nat},Chain s (Gt b vs) i j→∃ P K A,Awm s vs i j P K A
 | [],h,_,_,_,_=>absurd rfl h
 | [v],_,b,i,j,⟨k,h,e⟩=>by
  obtain rfl:k=j:=e
  refine ⟨fun _=>i,fun _=>k,fun _=>0,rfl,rfl,fun m w hm=>?_,fun m hm=>by simp at hm⟩
  cases m with
  | zero =>
   simp at hm
   subst hm
   exact h
  | succ m=>simp at hm
 | v::w::vs,_,b,i,j,⟨k,h,l,⟨a,ha⟩,hc⟩=>by
  obtain ⟨P,K,A,q⟩:=Ail (w::vs) (by simp) hc
  refine ⟨fun m=>match m with|0=>i|m+1=>P m,fun m=>match m with|0=>k|m+1=>K m,fun m=>match m with|0=>a|m+1=>A m,rfl,q.k1,fun m x hm=>?_,fun m hm=>?_⟩
  ·cases m with
   | zero =>
    simp at hm
    subst hm
    exact h
   | succ m=>exact q.v m x (by simpa using hm)
  ·cases m with
   | zero =>
    show Rd s k (D4 4 a) (P 0)
    rw [q.p0];exact ha
   | succ m=>exact q.a m (by simp at hm ⊢;omega)
def Akt (s nm:List UInt8) (P:List PV) (z:Sg) (tz:Nat) (Y:Nat→Sg) (T:Nat→Nat) (V:Nat→V4) (A B:Nat→Nat):List PV :=
 [.str s,nI 0, .str nm,nI 0,nI 0,nI 0,nI 0,nI 0,nI 0,nI 0]++(P++(List.replicate 40 (nI 0)++(sv z tz++(List.replicate 12 (nI 0)++(sv (Y 0) (T 0)++([nI 0,nI 0]++(sv (Y 1) (T 1)++([nI 0,nI 0]++(sv (Y 2) (T 2)++([nI 0,nI 0]++(sv (Y 3) (T 3)++([nI 0,nI 0]++(sv (Y 4) (T 4)++([nI 0,nI 0] ++
  (List.replicate 10 (nI 0)++(Dj (V 0)++(Dj (V 1)++(Dj (V 2)++(Dj (V 3)++(Dj (V 4)++(List.replicate 10 (nI 0)++[nI (A 0),nI (B 0),nI (A 1),nI (B 1),nI (A 2),nI (B 2),nI (A 3),nI (B 3)])))))))))))))))))))))
def rowP (vs:List (V4 × List UInt8)):PV:=.slice 4 (vs.map fun v=>Den.vP v.1)
theorem W8 (vs:List (V4 × List UInt8)):PV.pureL (vs.map fun v=>Den.vP v.1)=true:=by
 induction vs with
 | nil=>rfl
 | cons v vs ih=>simp only [List.map_cons,PV.pureL,ih];rfl
set_option maxRecDepth 20000 in
set_option maxHeartbeats 4000000 in
theorem Aui {s nm:List UInt8} {i j:Nat} (hn:Bq.contains nm=false) {vs:List (V4 × List UInt8)} (h0:vs≠[]) (h5:vs.length≤5)
  (h:Chain s ([(false, .w (kw "insert")),(true, .w (kw "into")),(true, .w nm),(true, .w (kw "values")),(true, .m 2)]++(Gt false vs++[(false, .m 3)])) i j):L9 s i j (Cb 4 Bh nm [] [] (rowP vs) E7.zero E7.zero):=by
 obtain ⟨t1,⟨a1,r1⟩,t2,⟨a2,r2⟩,t3,⟨a3,r3⟩,t4,⟨a4,r4⟩,t5,⟨a5,r5⟩,hc⟩:=h
 obtain ⟨k,hv,t6,⟨a6,r6⟩,rfl⟩:=Chain.append (ps:=Gt false vs) (qs:=[(false, .m 3)]) hc
 have r1:=D8 (by decide +kernel) r1
 have r2:=D8 (by decide +kernel) r2
 have r3:=I2 hn r3
 have r4:=D8 (by decide +kernel) r4
 obtain ⟨P,K,A,q⟩:=Ail vs h0 hv
 have hl:1≤vs.length:=by cases vs with|nil=>exact absurd rfl h0|cons a l=>simp
 obtain ⟨n,hn5,hlen⟩:∃ n,n < 5∧vs.length=n+1:=⟨vs.length - 1,by omega,by omega⟩
 refine ⟨_,_,r1,show (1:Int)≠0 by decide,fun z tz hz _=>?_⟩
 have each:∀ m,∃ Q:Sg × Nat,m < n+1→Rd s (P m) Q.1 Q.2∧∀ z tz,Rd s (K m) z tz→Lx s Q.1 Q.2 0 (vs.getD m (v0,[])).1 z tz:=fun m=>by
  by_cases hm:m < n+1
  ·have hg:vs[m]? = some (vs.getD m (v0,[])):=by
    rw [List.getD_eq_getElem?_getD,List.getElem?_eq_getElem (by omega)];rfl
   obtain ⟨y,tu,h1,_,h2⟩:=q.v m _ hg
   exact ⟨(y,tu),fun _=>⟨h1,fun z tz hz=>h2 0 z tz hz⟩⟩
  ·exact ⟨(z,tz),fun h=>absurd h hm⟩
 obtain ⟨Q,hQ⟩:=Classical.axiomOfChoice each
 have hk:=Dt (List.all_eq_true.1 Auy n (by rw [List.mem_range];exact hn5))
 have hnu:Bc (Ab (Akt s nm (p30 [nI a1,nI t1,nI a2,nI t2,nI a3,nI t3,nI a4,nI t4,nI a5,nI t5,nI a6,nI t6]) z tz (fun m=>(Q m).1) (fun m=>(Q m).2) (fun m=>(vs.getD m (v0,[])).1) A (fun m=>P (m+1)))):=Ap rfl
 have hf:Ah PG (Ab (Akt s nm (p30 [nI a1,nI t1,nI a2,nI t2,nI a3,nI t3,nI a4,nI t4,nI a5,nI t5,nI a6,nI t6]) z tz (fun m=>(Q m).1) (fun m=>(Q m).2) (fun m=>(vs.getD m (v0,[])).1) A (fun m=>P (m+1)))) (Adl (n+1)):=by
  unfold Adl
  have hp0:Rd s t5 (Q 0).1 (Q 0).2:=by have:=(hQ 0 (by omega)).1;rw [q.p0] at this;exact this
  refine Ah.append ⟨Aw (A8 ⟨1,a1,kw "insert", v0,0⟩ 0 r2) rfl rfl rfl rfl rfl,Aw (A8 ⟨1,a2,kw "into", v0,0⟩ 0 r3) rfl rfl rfl rfl rfl,Aw (A8 ⟨2,a3,nm,v0,0⟩ 0 r4) rfl rfl rfl rfl rfl,Aw (A8 ⟨1,a4,kw "values", v0,0⟩ 0 r5) rfl rfl rfl rfl rfl,
   Aw (A8 (D4 2 a5) 0 hp0) rfl rfl rfl rfl rfl,Aw (A8 (D4 3 a6) 0 hz) rfl rfl rfl rfl rfl,trivial⟩ (Ah.append (Ah.of ?_) (Ah.of ?_))
  ·intro f hf
   obtain ⟨m,hm,rfl⟩:=List.mem_map.1 hf
   rw [List.mem_range] at hm
   have hm5:m=0∨m=1∨m=2∨m=3∨m=4:=by omega
   by_cases hl:m=n
   ·have e:cmS (n+1) m=Ee 3 20:=if_pos (by omega)
    have hr:Rd s (K m) (D4 3 a6) t6:=by
     have:=q.k1
     rw [hlen,show n+1 - 1=m by omega] at this
     rw [this];exact r6
    have hcc:=(hQ m hm).2 _ _ hr
    rw [e]
    rcases hm5 with rfl|rfl|rfl|rfl|rfl<;>exact Aw hcc rfl rfl rfl rfl rfl
   ·have e:cmS (n+1) m=Ee 4 (190+2*m):=if_neg (by omega)
    have hcc:=(hQ m hm).2 _ _ (q.a m (by omega))
    rw [e]
    have hm4:m=0∨m=1∨m=2∨m=3:=by omega
    rcases hm4 with rfl|rfl|rfl|rfl<;>exact Aw hcc rfl rfl rfl rfl rfl
  ·intro f hf
   obtain ⟨m,hm,rfl⟩:=List.mem_map.1 hf
   rw [List.mem_range] at hm
   have hcc:=A8 (D4 4 (A m)) (tt:=P (m+1)) 0 (hQ (m+1) (by omega)).1
   have hm4:m=0∨m=1∨m=2∨m=3:=by omega
   rcases hm4 with rfl|rfl|rfl|rfl<;>exact Aw hcc rfl rfl rfl rfl rfl
 have hrow:rowP vs = .slice 4 ((List.range (n+1)).map fun m=>Den.vP (vs.getD m (v0,[])).1):=by
  unfold rowP
  congr 1
  refine List.ext_getElem? fun m=>?_
  rw [List.getElem?_map,List.getElem?_map]
  by_cases hm:m < n+1
  ·rw [List.getElem?_eq_getElem (by omega),List.getElem?_range hm]
   simp [List.getElem?_eq_getElem (show m < vs.length by omega)]
  ·rw [List.getElem?_eq_none (by omega),List.getElem?_eq_none (by simp;omega)]
   rfl
 rw [hrow]
 have hn':n=0∨n=1∨n=2∨n=3∨n=4:=by omega
 clear hrow q hQ
 rcases hn' with rfl|rfl|rfl|rfl|rfl
 all_goals exact EvS.facts (args:=[.box 0 0]) (s:=Bt "insert" 10) (s':=gS 80) Af hnu hk hf rfl rfl rfl
open Go Go.RowKit
def A5 (i:Nat):List UInt8:=[UInt8.ofNat (97+i)]
def Ak8 (i:Nat):PV:=.agg [.str (A5 i), .atom (1020+i), .atom (1024+i)]
inductive Tk where
 | kw (a:String)
 | nm (n:Nat)
 | nc (a:List UInt8)
 | mk (m:Nat)
def Vm (k:Int) (w:PV) (j:Nat):List Aa:=Jn (.atom 1000) (nI k) (.atom (1101+8*j)) w (nI 0) (nI 0) (nI 0) (.str []) (.atom (1107+8*j)) (nI 0)
def Tk.res:Tk→Nat→List Aa
 | .kw a,j=>Vm 1 (.str (Den.kw a)) j
 | .nm n,j=>Vm 2 (.atom (1000+n)) j
 | .nc a,j=>Vm 2 (.str a) j
 | .mk m,j=>Vm 5 (.str (Be m)) j
def gF (j:Nat):List Aa:=Jn (.atom 1000) (.atom (1000+j)) (.atom (1001+j)) (.atom (1002+j)) (.atom (1003+j)) (.atom (1004+j)) (.atom (1005+j)) (.atom (1006+j)) (.atom (1007+j)) (nI 0)
inductive CI where
 | tk (t:Tk)
 | col (i:Nat)
 | ex
 | ow (T:List PV) (r:Nat)
def CI.res:CI→Nat→List Aa
 | .tk t,j=>t.res j
 | .col i,j=>Tk.res (.nc (A5 i)) j
 | .ex,j=>gF (100+8*j)
 | .ow _ _,j=>Tk.res (.mk 2) j
def CI.fact (c:CI) (j:Nat) (st:List Aa):Ao:=match c with
 | .tk t=>Bl (t.res j) st
 | .col i=>.st V0 [.box 0 0] (Tk.res (.nc (A5 i)) j) (Ak8 i) st
 | .ex=>anyT (gF (100+8*j)) 60 st
 | .ow T r=>.st Vz [.box 0 0, .agg T] (Tk.res (.mk 2) j) (.atom (1000+r)) st
def ciF:List CI→Nat→List Ao
 | [],_=>[]
 | [c],j=>[c.fact j (gF 80)]
 | c::d::r,j=>c.fact j (d.res (j+1))::ciF (d::r) (j+1)
def Ada (k:Nat):PV:=.slice 3 ((List.range k).map Ak8)
def Qb (m:Nat):PV:=match m with|0=>.nilslice|_=>.slice 1 ((List.range m).map fun i=>.atom (1010+i))
def Vs (m:Nat):PV:=match m with|0=>.nilslice|_=>.slice 2 ((List.range m).map fun i=>.agg [.atom (1012+i), .atom (1005+i)])
def Vx (ck:Bool):List PV:=match ck with|true=>G7 60|false=>E7.zero.L
def J4 (k:Nat) (key uq:PV) (ck:List PV) (lk:PV):List PV:=[.atom 1002,Ada k,key,uq]++(ck++[lk])
abbrev Em (a:String):CI:=.tk (.kw a)
abbrev Gj (m:Nat):CI:=.tk (.mk m)
def Rq:Nat→Nat→List CI
 | 0,_=>[]
 | n+1,i=>.col i::Gj 4::Rq n (i+1)
def Tc (k:Nat):Nat→Nat→List CI
 | 0,_=>[]
 | n+1,m=>Gj 4::Em "unique" :: .ow (J4 k (.atom 1003) (Qb m) E7.zero.L .nilslice) (10+m)::Tc k n (m+1)
def ckI:Bool→List CI
 | true=>[Gj 4,Em "check", Gj 2, .ex,Gj 3]
 | false=>[]
def R1 (k u:Nat) (ck:Bool):Nat→Nat→List CI
 | 0,_=>[]
 | n+1,m=>Gj 4::Em "foreign" :: Em "key" :: .ow (J4 k (.atom 1003) (Qb u) (Vx ck) (Vs m)) (12+m)::Em "references" :: .tk (.nm (5+m))::R1 k u ck n (m+1)
def J3 (k u:Nat) (ck:Bool) (l:Nat):List CI :=
 [Em "create", Em "table", .tk (.nm 2),Gj 2]++(Rq k 0++([Em "primary", Em "key", .ow (J4 k (nI 0) .nilslice E7.zero.L .nilslice) 3]++(Tc k u 0++(ckI ck++(R1 k u ck l 0++[Gj 3])))))
def Alx (k u:Nat) (ck:Bool) (l:Nat):PV:=Cf (nI 1) (J4 k (.atom 1003) (Qb u) (Vx ck) (Vs l)) (.str []) (.str []) (.str []) .nilslice E7.zero.L E7.zero.L
noncomputable abbrev J6 (k u:Nat) (ck:Bool) (l:Nat):Bool:=E1 (Alx k u ck l) (gF 80) (Am PG (Aj An (ciF (J3 k u ck l) 0)) 30 V3 [.box 0 0] (Tk.res (.kw "create") 0))
theorem Au3:((List.range 3).all fun u=>bl fun ck=>(List.range 3).all fun l=>J6 1 u ck l)=true:=by kernel_rfl
open Go Go.RowKit
theorem Atc:(bl fun ck=>(List.range 3).all fun l=>J6 2 0 ck l)=true:=by kernel_rfl
theorem Ar4:(bl fun ck=>(List.range 3).all fun l=>J6 2 1 ck l)=true:=by kernel_rfl
theorem At4:(bl fun ck=>(List.range 3).all fun l=>J6 2 2 ck l)=true:=by kernel_rfl
open Go Go.RowKit
theorem Asw:(bl fun ck=>(List.range 3).all fun l=>J6 3 0 ck l)=true:=by kernel_rfl
theorem Atp:(bl fun ck=>(List.range 3).all fun l=>J6 3 1 ck l)=true:=by kernel_rfl
theorem Atr:(bl fun ck=>(List.range 3).all fun l=>J6 3 2 ck l)=true:=by kernel_rfl
open Go Go.RowKit
theorem At8:(bl fun ck=>(List.range 3).all fun l=>J6 4 0 ck l)=true:=by kernel_rfl
theorem Asj:(bl fun ck=>(List.range 3).all fun l=>J6 4 1 ck l)=true:=by kernel_rfl
theorem Atw:(bl fun ck=>(List.range 3).all fun l=>J6 4 2 ck l)=true:=by kernel_rfl
end Go.Proofs.YtdlkibeljkapeaaGreatDoor.Den
