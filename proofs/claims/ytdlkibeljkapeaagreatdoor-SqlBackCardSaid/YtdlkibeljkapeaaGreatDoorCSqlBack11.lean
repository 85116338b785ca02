-- Written by drive.py and pack.py (programs of this proof's own) through the kit's printer; not trusted: Lean checks it.
import Derived.Test.YtdlkibeljkapeaaGreatDoorCSqlBack10
namespace Go.Proofs.YtdlkibeljkapeaaGreatDoor.Den
open Go Go.RowKit
def E9:List String:=["bool", "int", "dec", "text", "bytes"]
def Ayt (ty:String) (nn:Bool):List Ao:=match nn with
 | false=>[Bl (Et 2 10) (Bt ty 12),Bl (Bt ty 12) (gS 80),D2 (gS 80) "not" false]
 | true=>[Bl (Et 2 10) (Bt ty 12),Bl (Bt ty 12) (Bt "not" 14),Bl (Bt "not" 14) (Bt "null" 16),Bl (Bt "null" 16) (gS 80)]
theorem Axl:((List.range 5).all fun t=>bl fun nn=>E1 (.agg [.atom 2,nI (t+1:Nat), .bool nn]) (gS 80) (Am PG (Aj An (Ayt (E9.getD t "") nn)) 30 V0 [.box 0 0] (Et 2 10)))=true:=by kernel_rfl
def Y4 (nn:Bool):List Pc:=match nn with|true=>[(true, .w (kw "not")),(true, .w (kw "null"))]|false=>[]
def L0 (b:Bool) (nm:List UInt8) (t:Nat) (nn:Bool):List Pc:=[(b, .w nm),(true, .w (kw (E9.getD t "")))]++Y4 nn
theorem Ato:∀ t,t < 5→Bq.contains (kw (E9.getD t ""))=true:=by decide +kernel
theorem Avc {s nm:List UInt8} {i j:Nat} {b:Bool} (hn:Bq.contains nm=false) {t:Nat} (ht:t < 5) {nn:Bool} (h:Chain s (L0 b nm t nn) i j) :
  ∃ a tu,Rd s i ⟨2,(a:Nat),nm,v0,0⟩ tu∧∀ z tz,Rd s j z tz→Bn z (kw "not")=false→EvS PG V0 [.box 0 0] (Db s ⟨2,(a:Nat),nm,v0,0⟩ tu 0) (.agg [.str nm,nI (t+1:Nat), .bool nn]) (Db s z tz 0):=by
 obtain ⟨t1,⟨a1,r1⟩,t2,⟨a2,r2⟩,hc⟩:=h
 have r1:=I2 hn r1
 have r2:=D8 (Ato t ht) r2
 refine ⟨a1,t1,r1,fun z tz hz hnz=>?_⟩
 have hk:=Dt (Bo (List.all_eq_true.1 Axl t (by rw [List.mem_range];exact ht)) nn)
 cases nn with
 | false =>
  obtain rfl:t2=j:=hc
  exact EvS.facts (nu:=Ab (Io s nm [] [] (p30 [nI a1,nI t1,nI a2,nI t2]) z tz z tz E7.zero E7.zero z tz)) (args:=[.box 0 0]) (s:=Et 2 10) (s':=gS 80) Af (Jd rfl rfl rfl) hk
   ⟨Aw (A8 ⟨2,a1,nm,v0,0⟩ 0 r2) rfl rfl rfl rfl rfl,Aw (A8 ⟨1,a2,kw (E9.getD t ""),v0,0⟩ 0 hz) rfl rfl rfl rfl rfl,C6 rfl hnz rfl,trivial⟩ rfl rfl rfl
 | true =>
  obtain ⟨t3,⟨a3,r3⟩,t4,⟨a4,r4⟩,rfl⟩:=hc
  have r3:=D8 (by decide +kernel) r3
  have r4:=D8 (by decide +kernel) r4
  exact EvS.facts (nu:=Ab (Io s nm [] [] (p30 [nI a1,nI t1,nI a2,nI t2,nI a3,nI t3,nI a4,nI t4]) z tz z tz E7.zero E7.zero z tz)) (args:=[.box 0 0]) (s:=Et 2 10) (s':=gS 80) Af (Jd rfl rfl rfl) hk
   ⟨Aw (A8 ⟨2,a1,nm,v0,0⟩ 0 r2) rfl rfl rfl rfl rfl,Aw (A8 ⟨1,a2,kw (E9.getD t ""),v0,0⟩ 0 r3) rfl rfl rfl rfl rfl,Aw (A8 ⟨1,a3,kw "not", v0,0⟩ 0 r4) rfl rfl rfl rfl rfl,Aw (A8 ⟨1,a4,kw "null", v0,0⟩ 0 hz) rfl rfl rfl rfl rfl,trivial⟩ rfl rfl rfl
def Y8 (k:Nat):PV:=.agg ([.atom 2, .slice 3 ((List.range k).map fun i=>.agg [.str (A5 i), .atom (40+i), .atom (44+i)]), .atom 50, .atom 51]++(G7 60++[.atom 52]))
def ncN (w:List UInt8) (j:Nat):List Aa:=Jn (.atom 0) (nI 2) (.atom j) (.str w) (nI 0) (nI 0) (nI 0) (.str []) (.atom (j+1)) (nI 0)
theorem Azt:((List.range 5).all fun k=>(List.range k).all fun t=>E1 (nI t) (gS 80) (Am PG (Aj An [Bl (Ee 2 10) (ncN (A5 t) 12),Bl (ncN (A5 t) 12) (Ee 3 14),Bl (Ee 3 14) (gS 80)]) 30 Vz [.box 0 0,Y8 k] (Ee 2 10)))=true:=by kernel_rfl
def Yx (s nm:List UInt8) (P:List PV) (ty:Nat→Int) (nn:Nat→Bool) (key uq lk:PV) (e:E7) (z:Sg) (tz:Nat):List PV :=
 [.str s,nI 0, .str nm,nI 0,nI 0,nI 0,nI 0,nI 0,nI 0,nI 0]++(P++([nI (ty 0),nI (ty 1),nI (ty 2),nI (ty 3), .bool (nn 0), .bool (nn 1), .bool (nn 2), .bool (nn 3),nI 0,nI 0,key,uq,lk,nI 0,nI 0,nI 0,nI 0,nI 0,nI 0,nI 0]++(e.L++(List.replicate 13 (nI 0)++sv z tz))))
theorem Ar5 {s nm:List UInt8} {P:List PV} {ty:Nat→Int} {nn:Nat→Bool} {key uq lk:PV} {e:E7} {z:Sg} {tz:Nat} (hP:(P.all fun p=>p.clean&&p.pure)=true) (h:([key,uq,lk].all fun p=>p.clean&&p.pure)=true) (he:e.ok=true):Bc (Ab (Yx s nm P ty nn key uq lk e z tz)):=by
 refine Ap ?_
 have h1:(e.L.all fun p=>p.clean&&p.pure)=true:=he
 simp only [List.all_cons,List.all_nil,Bool.and_true,Bool.and_eq_true] at h
 unfold Yx
 simp only [List.all_append,hP,h1,List.all_cons,h]
 rfl
def E8 (ty:Nat→Int) (nn:Nat→Bool) (i:Nat):PV:=.agg [.str (A5 i),nI (ty i), .bool (nn i)]
def K4 (nm:List UInt8) (k:Nat) (ty:Nat→Int) (nn:Nat→Bool) (key uq:PV) (e:E7) (lk:PV):List PV:=[.str nm, .slice 3 ((List.range k).map (E8 ty nn)),key,uq]++(e.L++[lk])
theorem Ai8:∀ t,t < 6→Bq.contains (A5 t)=false:=by decide +kernel
theorem Ag8 {nm:List UInt8} {k:Nat} {ty:Nat→Int} {nn:Nat→Bool} {key uq:PV} {e:E7} {lk:PV} (h:([key,uq,lk].all fun p=>p.clean&&p.pure)=true) (he:e.ok=true):PV.pureL (K4 nm k ty nn key uq e lk)=true:=by
 have e1:PV.pureL ((List.range k).map (E8 ty nn))=true:=by
  generalize List.range k=l
  induction l with
  | nil=>rfl
  | cons a l ih=>simp only [List.map_cons,PV.pureL,ih];rfl
 simp only [List.all_cons,List.all_nil,Bool.and_true,Bool.and_eq_true] at h
 simp only [E7.ok,E7.L,List.all_cons,List.all_nil,Bool.and_eq_true,Bool.and_true] at he
 simp [K4,E7.L,PV.pureL,PV.pure,e1,h,he]
theorem own_at {s nm:List UInt8} {i j:Nat} {b:Bool} {k t:Nat} (hk:k≤4) (ht:t < k) {ty:Nat→Int} {nn:Nat→Bool} {key uq lk:PV} {e:E7} (hg:([key,uq,lk].all fun p=>p.clean&&p.pure)=true) (he:e.ok=true) (h:Chain s [(b, .m 2),(false, .w (A5 t)),(false, .m 3)] i j) :
  ∃ a tu,Rd s i (D4 2 a) tu∧∀ z tz,Rd s j z tz→EvS PG Vz [.box 0 0, .agg (K4 nm k ty nn key uq e lk)] (Db s (D4 2 a) tu 0) (nI t) (Db s z tz 0):=by
 obtain ⟨t1,⟨a1,r1⟩,t2,⟨a2,r2⟩,t3,⟨a3,r3⟩,rfl⟩:=h
 have r2:=I2 (Ai8 t (by omega)) r2
 refine ⟨a1,t1,r1,fun z tz hz=>?_⟩
 have hkk:=Dt (List.all_eq_true.1 (List.all_eq_true.1 Azt k (by rw [List.mem_range];omega)) t (by rw [List.mem_range];exact ht))
 have hp:=Ag8 (nm:=nm) (k:=k) (ty:=ty) (nn:=nn) hg he
 have hT:subD (Ab (Yx s nm (p30 [nI a1,nI t1,nI a2,nI t2,nI a3,nI t3]) ty nn key uq lk e z tz)) (Y8 k) = .agg (K4 nm k ty nn key uq e lk):=by
  have hk4:k=0∨k=1∨k=2∨k=3∨k=4:=by omega
  rcases hk4 with rfl|rfl|rfl|rfl|rfl<;>rfl
 have:=EvS.facts (nu:=Ab (Yx s nm (p30 [nI a1,nI t1,nI a2,nI t2,nI a3,nI t3]) ty nn key uq lk e z tz)) (args:=[.box 0 0,Y8 k]) (s:=Ee 2 10) (s':=gS 80) Af (Ar5 rfl hg he) hkk
   ⟨Aw (A8 (D4 2 a1) 0 r2) rfl rfl rfl rfl rfl,Aw (A8 ⟨2,a2,A5 t,v0,0⟩ 0 r3) rfl rfl rfl rfl rfl,Aw (A8 (D4 3 a3) 0 hz) rfl rfl rfl rfl rfl,trivial⟩
   (by
    show (true&&(((subD _ (Y8 k)).pure&&_)&&true))=true
    rw [hT]
    show (true&&((PV.pureL (K4 nm k ty nn key uq e lk)&&true)&&true))=true
    rw [hp];rfl) rfl rfl
 simp only [List.map_cons,List.map_nil,hT] at this
 exact this
open Go Go.RowKit
def P3 (L:List PV) (f:Nat→PV) (j:Nat):PV:=match Nat.ble 1000 j with
 | true=>f (j - 1000)
 | false=>L.getD j (.bool false)
theorem Atq {L:List PV} {f:Nat→PV} (h:(L.all fun p=>p.clean&&p.pure)=true) (hf:∀ j,(f j).flatA=true):Bc (P3 L f):=by
 have h1:∀ j,(L.getD j (.bool false)).clean=true∧(L.getD j (.bool false)).pure=true:=fun j=>by
  rw [List.getD_eq_getElem?_getD]
  cases hj:L[j]? with
  | none=>exact ⟨rfl,rfl⟩
  | some p=>simpa using List.all_eq_true.1 h p (List.mem_of_getElem? hj)
 have h3:∀ p:PV,p.flatA=true→p.clean=true∧p.pure=true:=fun p hp=>by cases p<;>first|exact ⟨rfl,rfl⟩|cases hp
 have h4:∀ j,(P3 L f j).clean=true∧(P3 L f j).pure=true:=fun j=>by
  unfold P3
  split
  ·exact h3 _ (hf _)
  ·exact h1 _
 refine ⟨fun j=>(h4 j).1,fun j=>(h4 j).2,fun j hj=>?_⟩
 unfold P3
 rw [hj]
 exact hf _
structure Ce where
 s:List UInt8
 nm:List UInt8
 n5:List UInt8
 n6:List UInt8
 R:Nat→Nat
 ty:Nat→Int
 nn:Nat→Bool
 e:E7
variable (E:Ce)
def Ce.fix (z:Sg) (tz:Nat):List PV:=[.str E.s,nI 0, .str E.nm,nI (E.R 3),nI 0, .str E.n5, .str E.n6,nI 0,nI 0,nI 0,nI (E.R 10),nI (E.R 11),nI (E.R 12),nI (E.R 13),nI 0,nI 0,nI 0,nI 0,nI 0,nI 0,
 nI (E.ty 0),nI (E.ty 1),nI (E.ty 2),nI (E.ty 3), .bool (E.nn 0), .bool (E.nn 1), .bool (E.nn 2), .bool (E.nn 3)]++(List.replicate 52 (nI 0)++sv z tz)
def Ce.fl (z:Sg) (tz:Nat) (Y:Nat→Sg) (T:Nat→Nat) (j:Nat):PV:=match Nat.ble 100 j with
 | true=>(sv (Y ((j - 100) / 8)) (T ((j - 100) / 8))).getD ((j - 100) % 8) (nI 0)
 | false=>(E.fix z tz).getD j (nI 0)
def Ce.nu (z:Sg) (tz:Nat) (Y:Nat→Sg) (T:Nat→Nat):Nat→PV:=P3 (List.replicate 60 (nI 0)++E.e.L) (E.fl z tz Y T)
theorem Asl (y:Sg) (t j:Nat):((sv y t).getD j (nI 0)).flatA=true:=by
 rw [List.getD_eq_getElem?_getD]
 cases hj:(sv y t)[j]? with
 | none=>rfl
 | some p =>
  have:=List.mem_of_getElem? hj
  simp only [sv,List.mem_cons,List.not_mem_nil,or_false] at this
  rcases this with rfl|rfl|rfl|rfl|rfl|rfl|rfl|rfl<;>rfl
theorem Ce.nu_ok {z:Sg} {tz:Nat} {Y:Nat→Sg} {T:Nat→Nat} (he:E.e.ok=true):Bc (E.nu z tz Y T):=by
 refine Atq ?_ fun j=>?_
 ·rw [List.all_append,show (E.e.L.all fun p=>p.clean&&p.pure)=true from he]
  rfl
 ·unfold Ce.fl
  split
  ·exact Asl _ _ _
  ·have h:(E.fix z tz).all PV.flatA=true:=rfl
   rw [List.getD_eq_getElem?_getD]
   cases hj:(E.fix z tz)[j]? with
   | none=>rfl
   | some p=>exact List.all_eq_true.1 h p (List.mem_of_getElem? hj)
theorem Ce.nu_at (z:Sg) (tz:Nat) (Y:Nat→Sg) (T:Nat→Nat) (j m:Nat) (hm:m < 8):E.nu z tz Y T (1100+8*j+m)=(sv (Y j) (T j)).getD m (nI 0):=by
 unfold Ce.nu P3
 rw [show Nat.ble 1000 (1100+8*j+m)=true by rw [Nat.ble_eq];omega]
 show E.fl z tz Y T (1100+8*j+m - 1000)=_
 unfold Ce.fl
 rw [show Nat.ble 100 (1100+8*j+m - 1000)=true by rw [Nat.ble_eq];omega]
 show (sv (Y ((1100+8*j+m - 1000 - 100) / 8)) (T ((1100+8*j+m - 1000 - 100) / 8))).getD ((1100+8*j+m - 1000 - 100) % 8) (nI 0)=_
 rw [show (1100+8*j+m - 1000 - 100) / 8=j by omega,show (1100+8*j+m - 1000 - 100) % 8=m by omega]
theorem Ce.tk_res (z:Sg) (tz:Nat) (Y:Nat→Sg) (T:Nat→Nat) {k:Int} {p:PV} {w:List UInt8} {j:Nat} {a:Int} (hw:subD (E.nu z tz Y T) p = .str w) (hY:Y j=⟨k,a,w,v0,0⟩):(Vm k p j).map (Bz (E.nu z tz Y T))=Db E.s (Y j) (T j) 0:=by
 have h1:E.nu z tz Y T (1101+8*j)=nI (Y j).a:=by
  have:=E.nu_at z tz Y T j 1 (by decide)
  rw [show 1100+8*j+1=1101+8*j by omega] at this
  exact this
 have h7:E.nu z tz Y T (1107+8*j)=nI (T j):=by
  have:=E.nu_at z tz Y T j 7 (by decide)
  rw [show 1100+8*j+7=1107+8*j by omega] at this
  exact this
 show [Aa.box [PV.str E.s,nI k,E.nu z tz Y T (1101+8*j),subD (E.nu z tz Y T) p,nI 0,nI 0,nI 0, .str [],nI 0,E.nu z tz Y T (1107+8*j),nI 0,nI 0,nI 0]]=_
 rw [h1,h7,hw,hY]
 rfl
theorem Ce.g_res (z:Sg) (tz:Nat) (Y:Nat→Sg) (T:Nat→Nat) (j:Nat):(gF (100+8*j)).map (Bz (E.nu z tz Y T))=Db E.s (Y j) (T j) 0:=by
 have h:∀ m,m < 8→E.nu z tz Y T (1000+(100+8*j)+m)=(sv (Y j) (T j)).getD m (nI 0):=fun m hm=>by
  have:=E.nu_at z tz Y T j m hm
  rw [show 1000+(100+8*j)+m=1100+8*j+m by omega]
  exact this
 have hh:∀ m,1000+m+(100+8*j)=1000+(100+8*j)+m:=fun m=>by omega
 show [Aa.box [PV.str E.s,E.nu z tz Y T (1000+(100+8*j)),E.nu z tz Y T (1001+(100+8*j)),E.nu z tz Y T (1002+(100+8*j)),E.nu z tz Y T (1003+(100+8*j)),E.nu z tz Y T (1004+(100+8*j)),E.nu z tz Y T (1005+(100+8*j)),E.nu z tz Y T (1006+(100+8*j)),nI 0,E.nu z tz Y T (1007+(100+8*j)),nI 0,nI 0,nI 0]]=_
 have h0:=h 0 (by decide)
 rw [Nat.add_zero] at h0
 rw [h0,show 1001+(100+8*j)=1000+(100+8*j)+1 by omega,h 1 (by decide),show 1002+(100+8*j)=1000+(100+8*j)+2 by omega,h 2 (by decide),show 1003+(100+8*j)=1000+(100+8*j)+3 by omega,h 3 (by decide),
  show 1004+(100+8*j)=1000+(100+8*j)+4 by omega,h 4 (by decide),show 1005+(100+8*j)=1000+(100+8*j)+5 by omega,h 5 (by decide),show 1006+(100+8*j)=1000+(100+8*j)+6 by omega,h 6 (by decide),show 1007+(100+8*j)=1000+(100+8*j)+7 by omega,h 7 (by decide)]
 rfl
def Ce.N (n:Nat):List UInt8:=match n with|2=>E.nm|5=>E.n5|6=>E.n6|_=>[]
def Ce.sign:CI→Sg→Prop
 | .tk (.kw a),y=>∃ p:Nat,y=⟨1,p,kw a,v0,0⟩
 | .tk (.nm n),y=>(n=2∨n=5∨n=6)∧∃ p:Nat,y=⟨2,p,E.N n,v0,0⟩
 | .tk (.nc w),y=>∃ p:Nat,y=⟨2,p,w,v0,0⟩
 | .tk (.mk m),y=>∃ p:Nat,y=D4 m p
 | .col i,y=>i < 4∧∃ p:Nat,y=⟨2,p,A5 i,v0,0⟩
 | .ex,_=>True
 | .ow _ r,y=>(r=3∨r=10∨r=11∨r=12∨r=13)∧∃ p:Nat,y=D4 2 p
def Ce.ev:CI→List Aa→List Aa→Prop
 | .tk _,a,b=>EvS PG V5 [.box 0 0] a (.tup []) b
 | .col i,a,b=>EvS PG V0 [.box 0 0] a (E8 E.ty E.nn i) b
 | .ex,a,b=>EvS PG M5 [.box 0 0] a E.e.pv b
 | .ow T r,a,b=>∃ V,(∀ z tz Y Tt,subD (E.nu z tz Y Tt) (.agg T) = .agg V)∧EvS PG Vz [.box 0 0, .agg V] a (nI (E.R r)) b
def CI.zc:CI→Sg→Prop
 | .col _,z=>Bn z (kw "not")=false
 | .ex,z=>∀ w∈stops,Bn z (kw w)=false
 | _,_=>True
def Ce.At (i j:Nat) (c:CI):Prop:=∃ y tu,Rd E.s i y tu∧E.sign c y∧∀ z tz,Rd E.s j z tz→c.zc z→E.ev c (Db E.s y tu 0) (Db E.s z tz 0)
def Ce.Chn:List CI→Nat→Nat→Prop
 | [],i,j=>i=j
 | c::cs,i,j=>∃ k,E.At i k c∧Ce.Chn cs k j
def nx:List CI→Bool
 | .col _::.tk (.mk m)::r=>(Nat.beq m 3||Nat.beq m 4)&&nx (.tk (.mk m)::r)
 | .col _::_=>false
 | .ex::.tk (.mk m)::r=>(Nat.beq m 3||Nat.beq m 4)&&nx (.tk (.mk m)::r)
 | .ex::_=>false
 | _::r=>nx r
 | []=>true
theorem Als {m p:Nat} (h:(Nat.beq m 3||Nat.beq m 4)=true):Bn (D4 m p) (kw "not")=false∧∀ w∈stops,Bn (D4 m p) (kw w)=false:=by
 simp only [Bool.or_eq_true,Nat.beq_eq] at h
 rcases h with rfl|rfl
 ·refine ⟨rfl,fun w hw=>?_⟩
  simp only [stops,List.mem_cons,List.not_mem_nil,or_false] at hw
  rcases hw with rfl|rfl|rfl|rfl|rfl|rfl|rfl|rfl|rfl|rfl<;>rfl
 ·refine ⟨rfl,fun w hw=>?_⟩
  simp only [stops,List.mem_cons,List.not_mem_nil,or_false] at hw
  rcases hw with rfl|rfl|rfl|rfl|rfl|rfl|rfl|rfl|rfl|rfl<;>rfl
theorem Ali {c d:CI} {r:List CI} (h:nx (c::d::r)=true) {y:Sg} (hy:E.sign d y):c.zc y∧nx (d::r)=true:=by
 cases c with
 | tk t=>exact ⟨trivial,by cases t<;>exact h⟩
 | ow T r=>exact ⟨trivial,h⟩
 | col i =>
  match d,h,hy with
  | .tk (.mk m),h,⟨p,hp⟩ =>
   simp only [nx,Bool.and_eq_true] at h
   subst hp
   exact ⟨(Als h.1).1,h.2⟩
  | .tk (.kw _),h,_=>cases h
  | .tk (.nm _),h,_=>cases h
  | .tk (.nc _),h,_=>cases h
  | .col _,h,_=>cases h
  | .ex,h,_=>cases h
  | .ow _ _,h,_=>cases h
 | ex =>
  match d,h,hy with
  | .tk (.mk m),h,⟨p,hp⟩ =>
   simp only [nx,Bool.and_eq_true] at h
   subst hp
   exact ⟨(Als h.1).2,h.2⟩
  | .tk (.kw _),h,_=>cases h
  | .tk (.nm _),h,_=>cases h
  | .tk (.nc _),h,_=>cases h
  | .col _,h,_=>cases h
  | .ex,h,_=>cases h
  | .ow _ _,h,_=>cases h
structure Ce.Run (cs:List CI) (i:Nat) (z:Sg) (tz:Nat) (Y:Nat→Sg) (T:Nat→Nat):Prop where
 rd:Rd E.s i (Y 0) (T 0)
 y:Y cs.length=z
 t:T cs.length=tz
 ev:∀ m c,cs[m]? = some c→E.sign c (Y m)∧E.ev c (Db E.s (Y m) (T m) 0) (Db E.s (Y (m+1)) (T (m+1)) 0)
theorem Ce.run_of:∀ (cs:List CI) (c0:CI),nx (c0::cs)=true→∀ {i j:Nat},E.Chn (c0::cs) i j→∃ y0 t0,Rd E.s i y0 t0∧E.sign c0 y0∧∀ {z:Sg} {tz:Nat},Rd E.s j z tz→(∀ c,(c0::cs).getLast? = some c→c.zc z)→∃ Y T,Y 0=y0∧T 0=t0∧E.Run (c0::cs) i z tz Y T
 | [],c,_,i,j,⟨k,⟨y,tu,h1,h2,h3⟩,e⟩=>by
  obtain rfl:k=j:=e
  refine ⟨y,tu,h1,h2,fun {z tz} hz hl=>⟨fun m=>match m with|0=>y|_+1=>z,fun m=>match m with|0=>tu|_+1=>tz,rfl,rfl,h1,rfl,rfl,fun m d hd=>?_⟩⟩
  cases m with
  | zero =>
   simp at hd
   subst hd
   exact ⟨h2,h3 z tz hz (hl c rfl)⟩
  | succ m=>simp at hd
 | d::cs,c,hn,i,j,⟨k,⟨y,tu,h1,h2,h3⟩,hc⟩=>by
  have hn2:nx (d::cs)=true:=by
   obtain ⟨_,⟨y',_,_,hy',_⟩,_⟩:=hc
   exact (Ali E hn hy').2
  obtain ⟨y1,t1,_,_,ih⟩:=Ce.run_of cs d hn2 hc
  refine ⟨y,tu,h1,h2,fun {z tz} hz hl=>?_⟩
  obtain ⟨Y,T,_,_,q⟩:=ih hz (fun x hx=>hl x (by rw [List.getLast?_cons_cons];exact hx))
  have hz0:=(Ali E hn (q.ev 0 d rfl).1).1
  refine ⟨fun m=>match m with|0=>y|m+1=>Y m,fun m=>match m with|0=>tu|m+1=>T m,rfl,rfl,h1,q.y,q.t,fun m x hx=>?_⟩
  cases m with
  | zero =>
   simp at hx
   subst hx
   exact ⟨h2,h3 _ _ q.rd hz0⟩
  | succ m=>exact q.ev m x (by simpa using hx)
theorem Ce.ci_res {z:Sg} {tz:Nat} {Y:Nat→Sg} {T:Nat→Nat} {c:CI} {j:Nat} (h:E.sign c (Y j)):(c.res j).map (Bz (E.nu z tz Y T))=Db E.s (Y j) (T j) 0:=by
 match c,h with
 | .tk (.kw a),⟨p,hp⟩=>exact E.tk_res z tz Y T rfl hp
 | .tk (.nm n),⟨hn,p,hp⟩ =>
  refine E.tk_res z tz Y T ?_ hp
  rcases hn with rfl|rfl|rfl<;>rfl
 | .tk (.nc w),⟨p,hp⟩=>exact E.tk_res z tz Y T rfl hp
 | .tk (.mk m),⟨p,hp⟩=>exact E.tk_res z tz Y T rfl hp
 | .col i,⟨_,p,hp⟩=>exact E.tk_res z tz Y T rfl hp
 | .ex,_=>exact E.g_res z tz Y T j
 | .ow _ _,⟨_,p,hp⟩=>exact E.tk_res z tz Y T rfl hp
theorem Aw5 (c:CI) (j:Nat) (nu:Nat→PV):(c.res j).all (Gs nu)=true:=by
 cases c with
 | tk t=>cases t<;>rfl
 | _=>rfl
theorem Ce.fact_ok {z:Sg} {tz:Nat} {Y:Nat→Sg} {T:Nat→Nat} {c:CI} {j:Nat} {st:List Aa} {y':Sg} {t':Nat} (h:E.sign c (Y j)) (hev:E.ev c (Db E.s (Y j) (T j) 0) (Db E.s y' t' 0)) (hst:st.map (Bz (E.nu z tz Y T))=Db E.s y' t' 0) (hfn:st.all (Gs (E.nu z tz Y T))=true):Dz PG (E.nu z tz Y T) (c.fact j st):=by
 have hr:=E.ci_res (z:=z) (tz:=tz) (T:=T) h
 match c,h,hev,hr with
 | .tk t,_,hev,hr=>exact Aw hev rfl hr rfl hst (by rw [hfn];rfl)
 | .col i,⟨hi,_⟩,hev,hr =>
  refine Aw hev rfl hr ?_ hst (by rw [hfn];rfl)
  have:i=0∨i=1∨i=2∨i=3:=by omega
  rcases this with rfl|rfl|rfl|rfl<;>rfl
 | .ex,_,hev,hr=>exact Aw hev rfl hr rfl hst (by rw [hfn];rfl)
 | .ow X r,⟨hx,_⟩,⟨V,hV,hev⟩,hr =>
  refine Aw hev (by show [PV.box 0 0,subD _ (.agg X)]=_;rw [hV]) hr ?_ hst ?_
  ·rcases hx with rfl|rfl|rfl|rfl|rfl<;>rfl
  ·rw [hfn]
   rcases hx with rfl|rfl|rfl|rfl|rfl<;>rfl
theorem Ce.z_res (z:Sg) (tz:Nat) (Y:Nat→Sg) (T:Nat→Nat):(gF 80).map (Bz (E.nu z tz Y T))=Db E.s z tz 0:=rfl
theorem Ce.facts_ok {z:Sg} {tz:Nat} {Y:Nat→Sg} {T:Nat→Nat}:∀ (cs:List CI) (j0:Nat),(∀ m c,cs[m]? = some c→E.sign c (Y (j0+m))∧E.ev c (Db E.s (Y (j0+m)) (T (j0+m)) 0) (Db E.s (Y (j0+m+1)) (T (j0+m+1)) 0))→Y (j0+cs.length)=z→T (j0+cs.length)=tz→Ah PG (E.nu z tz Y T) (ciF cs j0)
 | [],_,_,_,_=>trivial
 | [c],j0,h,hy,ht=>by
  obtain ⟨h1,h2⟩:=h 0 c rfl
  have hy':Y (j0+0+1)=z:=hy
  have ht':T (j0+0+1)=tz:=ht
  rw [hy',ht'] at h2
  exact ⟨E.fact_ok h1 h2 (E.z_res z tz Y T) rfl,trivial⟩
 | c::d::cs,j0,h,hy,ht=>by
  obtain ⟨h1,h2⟩:=h 0 c rfl
  obtain ⟨h3,_⟩:=h 1 d rfl
  refine ⟨E.fact_ok h1 h2 (E.ci_res h3) (Aw5 _ _ _),Ce.facts_ok (d::cs) (j0+1) (fun m x hx=>?_) ?_ ?_⟩
  ·have:=h (m+1) x (by simpa using hx)
   rw [show j0+1+m=j0+(m+1) by omega]
   exact this
  ·rw [← hy];congr 1;simp;omega
  ·rw [← ht];congr 1;simp;omega
end Go.Proofs.YtdlkibeljkapeaaGreatDoor.Den
namespace Go.Proofs.YtdlkibeljkapeaaGreatDoor.Den
open Go Go.RowKit
theorem Axh {k u l:Nat} (hk:1≤k∧k≤4) (hu:u < 3) (ck:Bool) (hl:l < 3):J6 k u ck l=true:=by
 have a:∀ {f:Nat→Bool},(List.range 3).all f=true→∀ {m},m < 3→f m=true:=fun h m hm=>List.all_eq_true.1 h m (by rw [List.mem_range];exact hm)
 have h4:k=1∨k=2∨k=3∨k=4:=by omega
 have h3:u=0∨u=1∨u=2:=by omega
 rcases h4 with rfl|rfl|rfl|rfl
 ·exact a (Bo (a Au3 hu) ck) hl
 ·rcases h3 with rfl|rfl|rfl
  ·exact a (Bo Atc ck) hl
  ·exact a (Bo Ar4 ck) hl
  ·exact a (Bo At4 ck) hl
 ·rcases h3 with rfl|rfl|rfl
  ·exact a (Bo Asw ck) hl
  ·exact a (Bo Atp ck) hl
  ·exact a (Bo Atr ck) hl
 ·rcases h3 with rfl|rfl|rfl
  ·exact a (Bo At8 ck) hl
  ·exact a (Bo Asj ck) hl
  ·exact a (Bo Atw ck) hl
def CI.fl:CI→Bool
 | .tk (.kw a)=>a != "create"
 | .tk (.mk m)=>Nat.beq m 2
 | .tk _=>true
 | .col i=>!Nat.beq i 0
 | .ex=>false
 | .ow _ _=>true
def CI.mark1:CI→Bool
 | .tk (.mk _)=>true
 | .ow _ _=>true
 | _=>false
def jnC:CI→CI→Bool
 | .tk (.mk _),_=>true
 | .ow _ _,_=>true
 | .ex, .tk (.mk m)=>Nat.beq m 3||(Nat.beq m 4||Nat.beq m 5)
 | .ex,_=>false
 | _,d=>d.fl||d.mark1
def Vg:List CI→Bool
 | c::d::r=>jnC c d&&Vg (d::r)
 | _=>true
variable (E:Ce) (t:Nat→Nat) (e:Xp)
def Ce.pcs (c:CI):List Pc:=match c with
 | .tk (.kw a)=>[(c.fl, .w (kw a))]
 | .tk (.nm n)=>[(c.fl, .w (E.N n))]
 | .tk (.nc w)=>[(c.fl, .w w)]
 | .tk (.mk m)=>[(c.fl, .m m)]
 | .col i=>L0 c.fl (A5 i) (t i) (E.nn i)
 | .ex=>[(c.fl, .x e)]
 | .ow _ r=>[(c.fl, .m 2),(false, .w (A5 (E.R r))),(false, .m 3)]
theorem Ajn:∀ (ps:List Pc) (q:Pc) (qs:List Pc),Ff ps=true→Ff (q::qs)=true→(∀ p,ps.getLast? = some p→jn p.2 q=true)→Ff (ps++q::qs)=true
 | [],_,_,_,h,_=>h
 | [p],q,qs,_,h,hj=>by
  show (jn p.2 q&&Ff (q::qs))=true
  rw [hj p rfl,h];rfl
 | p::p2::ps,q,qs,ha,h,hj=>by
  simp only [Ff,Bool.and_eq_true] at ha
  show (jn p.2 p2&&Ff (p2::ps++q::qs))=true
  rw [ha.1,Ajn (p2::ps) q qs ha.2 h (fun x hx=>hj x (by rw [List.getLast?_cons_cons];exact hx))];rfl
theorem Ce.pcs_head (c:CI):∃ it r,E.pcs t e c=(c.fl,it)::r∧(c.mark1=true→∃ m,it = .m m)∧(∀ m,c = .tk (.mk m)→it = .m m):=by
 match c with
 | .tk (.kw _)=>exact ⟨_,_,rfl,fun h=>(by cases h),fun _ h=>(by cases h)⟩
 | .tk (.nm _)=>exact ⟨_,_,rfl,fun h=>(by cases h),fun _ h=>(by cases h)⟩
 | .tk (.nc _)=>exact ⟨_,_,rfl,fun h=>(by cases h),fun _ h=>(by cases h)⟩
 | .tk (.mk m)=>exact ⟨_,_,rfl,fun _=>⟨m,rfl⟩,fun _ h=>(by cases h;rfl)⟩
 | .col _=>exact ⟨_,_,rfl,fun h=>(by cases h),fun _ h=>(by cases h)⟩
 | .ex=>exact ⟨_,_,rfl,fun h=>(by cases h),fun _ h=>(by cases h)⟩
 | .ow _ _=>exact ⟨_,_,rfl,fun _=>⟨2,rfl⟩,fun _ h=>(by cases h)⟩
theorem Ce.pcs_adj (c:CI):Ff (E.pcs t e c)=true:=by
 match c with
 | .tk (.kw _)=>rfl
 | .tk (.nm _)=>rfl
 | .tk (.nc _)=>rfl
 | .tk (.mk m)=>rfl
 | .col i=>show Ff (L0 _ _ _ (E.nn i))=true;cases E.nn i<;>rfl
 | .ex=>rfl
 | .ow _ _=>rfl
theorem Aw3 {c d : CI} (h : jnC c d = true) {p q : Pc} (hp : (E.pcs t e c).getLast? = some p) (hq : (E.pcs t e d).head? = some q) : jn p.2 q = true := by
  obtain ⟨it, r, hd, h1, h2⟩ := E.pcs_head t e d
  rw [hd] at hq
  obtain rfl : (d.fl, it) = q := by simpa using hq
  have hw : ∀ a : List UInt8, (d.fl || d.mark1) = true → jn (.w a) (d.fl, it) = true := fun a hh => by
    rw [Bool.or_eq_true] at hh
    rcases hh with hh | hh
    · rw [hh]; cases it <;> rfl
    · obtain ⟨m, rfl⟩ := h1 hh; rfl
  match c, h, hp with
  | .tk (.kw a), h, hp => obtain rfl : (_, It.w (kw a)) = p := by simpa [Ce.pcs] using hp
                          exact hw _ h
  | .tk (.nm n), h, hp => obtain rfl : (_, It.w (E.N n)) = p := by simpa [Ce.pcs] using hp
                          exact hw _ h
  | .tk (.nc w), h, hp => obtain rfl : (_, It.w w) = p := by simpa [Ce.pcs] using hp
                          exact hw _ h
  | .tk (.mk m), _, hp => obtain rfl : (_, It.m m) = p := by simpa [Ce.pcs] using hp
                          rfl
  | .col i, h, hp =>
    have hp' : (L0 (CI.fl (.col i)) (A5 i) (t i) (E.nn i)).getLast? = some p := hp
    unfold L0 Y4 at hp'
    cases hn : E.nn i with
    | true =>
      rw [hn] at hp'
      obtain rfl : (true, It.w (kw "null")) = p := by simpa using hp'
      exact hw _ h
    | false =>
      rw [hn] at hp'
      obtain rfl : (true, It.w (kw (E9.getD (t i) ""))) = p := by simpa using hp'
      exact hw _ h
  | .ex, h, hp =>
    obtain rfl : (_, It.x e) = p := by simpa [Ce.pcs] using hp
    match d, h, h2 with
    | .tk (.mk m), h, h2 =>
      rw [h2 m rfl]
      show (_ || (Nat.beq m 3 || (Nat.beq m 4 || Nat.beq m 5))) = true
      have h' : (Nat.beq m 3 || (Nat.beq m 4 || Nat.beq m 5)) = true := h
      rw [h', Bool.or_true]
    | .tk (.kw _), h, _ => cases h
    | .tk (.nm _), h, _ => cases h
    | .tk (.nc _), h, _ => cases h
    | .col _, h, _ => cases h
    | .ex, h, _ => cases h
    | .ow _ _, h, _ => cases h
  | .ow _ r, _, hp => obtain rfl : (_, It.m 3) = p := by simpa [Ce.pcs] using hp
                      rfl
theorem Ce.adj_of:∀ (cs:List CI),Vg cs=true→Ff (cs.flatMap (E.pcs t e))=true
 | [],_=>rfl
 | [c],_=>by simpa using E.pcs_adj t e c
 | c::d::cs,h=>by
  simp only [Vg,Bool.and_eq_true] at h
  have ih:=Ce.adj_of (d::cs) h.2
  obtain ⟨it,r,hd,_⟩:=E.pcs_head t e d
  rw [List.flatMap_cons]
  have hq:(d::cs).flatMap (E.pcs t e)=(d.fl,it)::(r++cs.flatMap (E.pcs t e)):=by rw [List.flatMap_cons,hd];rfl
  rw [hq] at ih ⊢
  exact Ajn _ _ _ (E.pcs_adj t e c) ih (fun p hp=>Aw3 E t e h.1 hp (by rw [hd];rfl))
def Ce.okC:CI→Prop
 | .tk (.kw a)=>Bq.contains (kw a)=true∧H5 (kw a)=true
 | .tk (.nm n)=>(n=2∨n=5∨n=6)∧Bq.contains (E.N n)=false∧H5 (E.N n)=true
 | .tk (.nc _)=>False
 | .tk (.mk m)=>m < 11∧m≠7
 | .col i=>i < 4∧t i < 5∧E.ty i=(t i+1:Nat)
 | .ex=>E.e=e.e7∧e.wf∧e.dpt≤12
 | .ow T r=>(r=3∨r=10∨r=11∨r=12∨r=13)∧∃ k key uq g lk,k≤4∧E.R r < k∧([key,uq,lk].all fun p=>p.clean&&p.pure)=true∧g.ok=true∧∀ z tz Y Tt,subD (E.nu z tz Y Tt) (.agg T) = .agg (K4 E.nm k E.ty E.nn key uq g lk)
theorem Ce.at_of {i j:Nat} {c:CI} (h:E.okC t e c) (hc:Chain E.s (E.pcs t e c) i j):E.At i j c:=by
 match c,h,hc with
 | .tk (.kw a),h,⟨_,⟨p,r⟩,e⟩ =>
  obtain rfl:=e
  have r:=D8 h.1 r
  exact ⟨_,_,r,⟨p,rfl⟩,fun z tz hz _=>A8 _ 0 hz⟩
 | .tk (.nm n),h,⟨_,⟨p,r⟩,e⟩ =>
  obtain rfl:=e
  have r:=I2 h.2.1 r
  exact ⟨_,_,r,⟨h.1,p,rfl⟩,fun z tz hz _=>A8 _ 0 hz⟩
 | .tk (.mk m),h,⟨_,⟨p,r⟩,e⟩ =>
  obtain rfl:=e
  exact ⟨_,_,r,⟨p,rfl⟩,fun z tz hz _=>A8 _ 0 hz⟩
 | .col i,h,hc =>
  obtain ⟨a,tu,r,h2⟩:=Avc (Ai8 i (by have:=h.1;omega)) h.2.1 hc
  refine ⟨_,_,r,⟨h.1,a,rfl⟩,fun z tz hz hnz=>?_⟩
  have:=h2 z tz hz hnz
  rw [← h.2.2] at this
  exact this
 | .ex,h,⟨_,⟨y,tu,hy,ha⟩,e⟩ =>
  obtain rfl:=e
  refine ⟨y,tu,hy,trivial,fun z tz hz hst=>?_⟩
  have:=(ha z tz hz hst).1
  rw [← h.1] at this
  exact this
 | .ow T r,⟨hr,k,key,uq,g,lk,hk,ht,hg,hgo,hV⟩,hc =>
  obtain ⟨a,tu,r1,h2⟩:=own_at (nm:=E.nm) (ty:=E.ty) (nn:=E.nn) hk ht hg hgo hc
  exact ⟨_,_,r1,⟨hr,a,rfl⟩,fun z tz hz _=>⟨_,hV,h2 z tz hz⟩⟩
theorem Ce.chn_of:∀ (cs:List CI),(∀ c∈cs,E.okC t e c)→∀ {i j:Nat},Chain E.s (cs.flatMap (E.pcs t e)) i j→E.Chn cs i j
 | [],_,_,_,h=>h
 | c::cs,hc,i,j,h=>by
  rw [List.flatMap_cons] at h
  obtain ⟨k,h1,h2⟩:=Chain.append h
  exact ⟨k,E.at_of t e (hc c (by simp)) h1,Ce.chn_of cs (fun d hd=>hc d (by simp [hd])) h2⟩
theorem Aj4:∀ m,m < 5→H5 (kw (E9.getD m ""))=true:=by decide +kernel
theorem Acs:∀ m,m < 6→H5 (A5 m)=true:=by decide +kernel
theorem Ce.wf_of {c:CI} (h:E.okC t e c):∀ p∈E.pcs t e c,p.2.wf:=by
 intro p hp
 match c,h,hp with
 | .tk (.kw a),h,hp =>
  obtain rfl:p=(_,It.w (kw a)):=by simpa [Ce.pcs] using hp
  exact h.2
 | .tk (.nm n),h,hp =>
  obtain rfl:p=(_,It.w (E.N n)):=by simpa [Ce.pcs] using hp
  exact h.2.2
 | .tk (.mk m),h,hp =>
  obtain rfl:p=(_,It.m m):=by simpa [Ce.pcs] using hp
  exact h
 | .col i,h,hp =>
  have hp':p∈L0 (CI.fl (.col i)) (A5 i) (t i) (E.nn i):=hp
  unfold L0 Y4 at hp'
  have hb:H5 (kw "not")=true∧H5 (kw "null")=true:=by decide +kernel
  cases hn:E.nn i with
  | true =>
   rw [hn] at hp'
   simp at hp'
   rcases hp' with rfl|rfl|rfl|rfl
   ·exact Acs i (by have:=h.1;omega)
   ·exact Aj4 _ h.2.1
   ·exact hb.1
   ·exact hb.2
  | false =>
   rw [hn] at hp'
   simp at hp'
   rcases hp' with rfl|rfl
   ·exact Acs i (by have:=h.1;omega)
   ·exact Aj4 _ h.2.1
 | .ex,h,hp =>
  obtain rfl:p=(_,It.x e):=by simpa [Ce.pcs] using hp
  exact h.2
 | .ow T r,⟨_,k,_,_,_,_,hk,ht,_⟩,hp =>
  have hp':p∈[(CI.fl (.ow T r),It.m 2),(false,It.w (A5 (E.R r))),(false,It.m 3)]:=hp
  simp at hp'
  rcases hp' with rfl|rfl|rfl
  ·exact ⟨by decide,by decide⟩
  ·exact Acs _ (by omega)
  ·exact ⟨by decide,by decide⟩
end Go.Proofs.YtdlkibeljkapeaaGreatDoor.Den
namespace Go.Proofs.YtdlkibeljkapeaaGreatDoor.Den
open Go Go.RowKit
structure Ea (w:List UInt8):Prop where
 wd:H5 w=true
 key:Bq.contains w=false
structure Tb where
 nm:List UInt8
 k:Nat
 t:Nat→Nat
 nn:Nat→Bool
 key:Nat
 u:Nat
 uq:Nat→Nat
 ck:Option Xp
 l:Nat
 lc:Nat→Nat
 ln:Nat→List UInt8
structure Tb.Wf (b:Tb):Prop where
 nm:Ea b.nm
 k:1≤b.k∧b.k≤4
 t:∀ i,b.t i < 5
 key:b.key < b.k
 u:b.u < 3
 uq:∀ i,b.uq i < b.k
 ck:∀ e,b.ck=some e→J5 e
 l:b.l < 3
 lc:∀ i,b.lc i < b.k
 ln:∀ i,Ea (b.ln i)
def Tb.R (b:Tb):Nat→Nat
 | 3=>b.key
 | 10=>b.uq 0
 | 11=>b.uq 1
 | 12=>b.lc 0
 | 13=>b.lc 1
 | _=>0
def Tb.ty (b:Tb) (i:Nat):Int:=(b.t i+1:Nat)
def Tb.env (b:Tb) (s:List UInt8):Ce:=⟨s,b.nm,b.ln 0,b.ln 1,b.R,b.ty,b.nn,wX b.ck⟩
def Tb.uqV (b:Tb) (m:Nat):PV:=match m with|0=>.nilslice|_=>.slice 1 ((List.range m).map fun i=>nI (b.uq i))
def Tb.lkV (b:Tb) (m:Nat):PV:=match m with|0=>.nilslice|_=>.slice 2 ((List.range m).map fun i=>.agg [nI (b.lc i), .str (b.ln i)])
def Tb.val (b:Tb):List PV:=K4 b.nm b.k b.ty b.nn (nI b.key) (b.uqV b.u) (wX b.ck) (b.lkV b.l)
def Tb.e (b:Tb):Xp:=b.ck.getD (.col [])
def Tb.items (b:Tb):List CI:=J3 b.k b.u b.ck.isSome b.l
def Tb.pcs (b:Tb):List Pc:=b.items.flatMap ((b.env []).pcs b.t b.e)
theorem Tb.pcs_s (b:Tb) (s:List UInt8):b.items.flatMap ((b.env s).pcs b.t b.e)=b.pcs:=rfl
section
variable (b:Tb) (s:List UInt8) (z:Sg) (tz:Nat) (Y:Nat→Sg) (T:Nat→Nat)
theorem Arv {k:Nat} (hk:k≤4):subD ((b.env s).nu z tz Y T) (Ada k) = .slice 3 ((List.range k).map (E8 b.ty b.nn)):=by
 have:k=0∨k=1∨k=2∨k=3∨k=4:=by omega
 rcases this with rfl|rfl|rfl|rfl|rfl<;>rfl
theorem Acy {m:Nat} (hm:m < 3):subD ((b.env s).nu z tz Y T) (Qb m)=b.uqV m:=by
 have:m=0∨m=1∨m=2:=by omega
 rcases this with rfl|rfl|rfl<;>rfl
theorem Aka {m:Nat} (hm:m < 3):subD ((b.env s).nu z tz Y T) (Vs m)=b.lkV m:=by
 have:m=0∨m=1∨m=2:=by omega
 rcases this with rfl|rfl|rfl<;>rfl
theorem Akf:Cj ((b.env s).nu z tz Y T) (Vx b.ck.isSome)=(wX b.ck).L:=by
 cases h:b.ck with
 | none=>rfl
 | some e =>
  show Cj _ (G7 60)=e.e7.L
  have:(b.env s).e=e.e7:=by show wX b.ck=_;rw [h];rfl
  rw [← this];rfl
theorem Ot (nu:Nat→PV) (l m:List PV):Cj nu (l++m)=Cj nu l++Cj nu m:=by rw [Gg,Gg,Gg,List.map_append]
theorem Ajr {k:Nat} {key uq key' uq' lk lk':PV} {ck:List PV} {g:E7} (hk:k≤4) (h1:subD ((b.env s).nu z tz Y T) key=key') (h2:subD ((b.env s).nu z tz Y T) uq=uq') (h3:Cj ((b.env s).nu z tz Y T) ck=g.L) (h4:subD ((b.env s).nu z tz Y T) lk=lk') :
  Cj ((b.env s).nu z tz Y T) (J4 k key uq ck lk)=K4 b.nm k b.ty b.nn key' uq' g lk':=by
 unfold J4 K4
 rw [Ot,Ot,h3]
 show [PV.str b.nm,subD _ (Ada k),subD _ key,subD _ uq]++(g.L++[subD _ lk])=_
 rw [h1,h2,h4,Arv b s z tz Y T hk]
end
theorem Ux (b:Tb) (m:Nat):((b.uqV m).clean&&(b.uqV m).pure)=true:=by
 unfold Tb.uqV
 split
 ·rfl
 ·show (true&&PV.pureL _)=true
  generalize List.range m=l
  induction l with
  | nil=>rfl
  | cons a l ih =>
   simp only [Bool.true_and] at ih ⊢
   simp only [List.map_cons,PV.pureL,ih];rfl
theorem X6 (b:Tb) (m:Nat):((b.lkV m).clean&&(b.lkV m).pure)=true:=by
 unfold Tb.lkV
 split
 ·rfl
 ·show (true&&PV.pureL _)=true
  generalize List.range m=l
  induction l with
  | nil=>rfl
  | cons a l ih =>
   simp only [Bool.true_and] at ih ⊢
   simp only [List.map_cons,PV.pureL,ih];rfl
theorem Apm:((List.range 5).all fun k=>(List.range 3).all fun u=>bl fun ck=>(List.range 3).all fun l=>Nat.beq k 0||(Vg (J3 k u ck l)&&(nx (J3 k u ck l)&&(match (J3 k u ck l).getLast? with|some (.tk _)=>true|_=>false))))=true:=by decide +kernel
theorem Aht {k u l:Nat} (hk:1≤k∧k≤4) (hu:u < 3) (ck:Bool) (hl:l < 3):Vg (J3 k u ck l)=true∧nx (J3 k u ck l)=true∧∀ c,(J3 k u ck l).getLast? = some c→∃ t,c = .tk t:=by
 have a:∀ {n:Nat} {f:Nat→Bool},(List.range n).all f=true→∀ {m},m < n→f m=true:=fun h m hm=>List.all_eq_true.1 h m (by rw [List.mem_range];exact hm)
 have h:=a (Bo (a (a Apm (show k < 5 by omega)) hu) ck) hl
 have h0:Nat.beq k 0=false:=by
  cases k with
  | zero=>omega
  | succ k=>rfl
 rw [h0,Bool.false_or,Bool.and_eq_true,Bool.and_eq_true] at h
 refine ⟨h.1,h.2.1,fun c hc=>?_⟩
 have h3:=h.2.2
 rw [hc] at h3
 cases c with
 | tk t=>exact ⟨t,rfl⟩
 | _=>cases h3
theorem Aik:∀ (n i:Nat) (c:CI),c∈Rq n i→c=Gj 4∨∃ m,m < i+n∧c = .col m
 | 0,_,_,h=>by cases h
 | n+1,i,c,h=>by
  simp only [Rq,List.mem_cons] at h
  rcases h with rfl|rfl|h
  ·exact .inr ⟨i,by omega,rfl⟩
  ·exact .inl rfl
  ·rcases Aik n (i+1) c h with h|⟨m,hm,h⟩
   ·exact .inl h
   ·exact .inr ⟨m,by omega,h⟩
theorem Ajb (k:Nat):∀ (n i:Nat) (c:CI),c∈Tc k n i→c=Gj 4∨c=Em "unique" ∨ ∃ m,m < i+n∧c = .ow (J4 k (.atom 1003) (Qb m) E7.zero.L .nilslice) (10+m)
 | 0,_,_,h=>by cases h
 | n+1,i,c,h=>by
  simp only [Tc,List.mem_cons] at h
  rcases h with rfl|rfl|rfl|h
  ·exact .inl rfl
  ·exact .inr (.inl rfl)
  ·exact .inr (.inr ⟨i,by omega,rfl⟩)
  ·rcases Ajb k n (i+1) c h with h|h|⟨m,hm,h⟩
   ·exact .inl h
   ·exact .inr (.inl h)
   ·exact .inr (.inr ⟨m,by omega,h⟩)
theorem Ai9 (k u:Nat) (ck:Bool):∀ (n i:Nat) (c:CI),c∈R1 k u ck n i→c=Gj 4∨c=Em "foreign" ∨ c=Em "key" ∨ c=Em "references" ∨ ∃ m,m < i+n∧(c = .ow (J4 k (.atom 1003) (Qb u) (Vx ck) (Vs m)) (12+m)∨c = .tk (.nm (5+m)))
 | 0,_,_,h=>by cases h
 | n+1,i,c,h=>by
  simp only [R1,List.mem_cons] at h
  rcases h with rfl|rfl|rfl|rfl|rfl|rfl|h
  ·exact .inl rfl
  ·exact .inr (.inl rfl)
  ·exact .inr (.inr (.inl rfl))
  ·exact .inr (.inr (.inr (.inr ⟨i,by omega, .inl rfl⟩)))
  ·exact .inr (.inr (.inr (.inl rfl)))
  ·exact .inr (.inr (.inr (.inr ⟨i,by omega, .inr rfl⟩)))
  ·rcases Ai9 k u ck n (i+1) c h with h|h|h|h|⟨m,hm,h⟩
   ·exact .inl h
   ·exact .inr (.inl h)
   ·exact .inr (.inr (.inl h))
   ·exact .inr (.inr (.inr (.inl h)))
   ·exact .inr (.inr (.inr (.inr ⟨m,by omega,h⟩)))
theorem Ayh:((["create", "table", "primary", "key", "unique", "check", "foreign", "references"]:List String).all fun a=>Bq.contains (kw a)&&H5 (kw a))=true:=by decide +kernel
theorem Ah7 {b:Tb} (hb:b.Wf) (s:List UInt8):∀ c∈b.items,(b.env s).okC b.t b.e c:=by
 intro c hc
 have hkw:∀ a,a∈(["create", "table", "primary", "key", "unique", "check", "foreign", "references"]:List String)→(b.env s).okC b.t b.e (Em a):=fun a ha=>by
  have:=List.all_eq_true.1 Ayh a ha
  rw [Bool.and_eq_true] at this
  exact this
 have hmk:∀ m,m < 11→m≠7→(b.env s).okC b.t b.e (Gj m):=fun m h1 h2=>⟨h1,h2⟩
 have how:∀ {key uq lk key' uq' lk':PV} {ckl:List PV} {g:E7} {r:Nat},(r=3∨r=10∨r=11∨r=12∨r=13)→([key',uq',lk'].all fun p=>p.clean&&p.pure)=true→g.ok=true→(∀ z tz Y T,subD ((b.env s).nu z tz Y T) key=key')→(∀ z tz Y T,subD ((b.env s).nu z tz Y T) uq=uq')→(∀ z tz Y T,Cj ((b.env s).nu z tz Y T) ckl=g.L)→(∀ z tz Y T,subD ((b.env s).nu z tz Y T) lk=lk')→(b.env s).okC b.t b.e (.ow (J4 b.k key uq ckl lk) r):=fun {key uq lk key' uq' lk' ckl g r} hr hg hgo h1 h2 h3 h4=>by
  refine ⟨hr,b.k,key',uq',g,lk',hb.k.2,?_,hg,hgo,fun z tz Y T=>?_⟩
  ·show b.R r < b.k
   rcases hr with rfl|rfl|rfl|rfl|rfl
   ·exact hb.key
   ·exact hb.uq 0
   ·exact hb.uq 1
   ·exact hb.lc 0
   ·exact hb.lc 1
  ·show PV.agg (Cj _ _)=_
   rw [Ajr b s z tz Y T hb.k.2 (h1 z tz Y T) (h2 z tz Y T) (h3 z tz Y T) (h4 z tz Y T)]
   rfl
 have hu:=hb.u
 have hl:=hb.l
 unfold Tb.items J3 at hc
 simp only [List.mem_append,List.mem_cons,List.not_mem_nil,or_false] at hc
 rcases hc with (rfl|rfl|rfl|rfl)|h|(rfl|rfl|rfl)|h|h|h|rfl
 ·exact hkw _ (by simp)
 ·exact hkw _ (by simp)
 ·exact ⟨.inl rfl,hb.nm.key,hb.nm.wd⟩
 ·exact hmk 2 (by decide) (by decide)
 ·rcases Aik _ _ _ h with rfl|⟨m,hm,rfl⟩
  ·exact hmk 4 (by decide) (by decide)
  ·exact ⟨by have:=hb.k.2;omega,hb.t m,rfl⟩
 ·exact hkw _ (by simp)
 ·exact hkw _ (by simp)
 ·exact how (key':=nI 0) (uq':=.nilslice) (lk':=.nilslice) (g:=E7.zero) (.inl rfl) rfl rfl (fun _ _ _ _=>rfl) (fun _ _ _ _=>rfl) (fun _ _ _ _=>rfl) (fun _ _ _ _=>rfl)
 ·rcases Ajb _ _ _ _ h with rfl|rfl|⟨m,hm,rfl⟩
  ·exact hmk 4 (by decide) (by decide)
  ·exact hkw _ (by simp)
  ·refine how (key':=nI b.key) (uq':=b.uqV m) (lk':=.nilslice) (g:=E7.zero) (by omega) ?_ rfl (fun _ _ _ _=>rfl) (fun z tz Y T=>Acy b s z tz Y T (by omega)) (fun _ _ _ _=>rfl) (fun _ _ _ _=>rfl)
   simp only [List.all_cons,Ux b m];rfl
 ·cases hck:b.ck with
  | none=>rw [hck] at h;cases h
  | some e =>
   rw [hck] at h
   simp only [Option.isSome_some,ckI,List.mem_cons,List.not_mem_nil,or_false] at h
   rcases h with rfl|rfl|rfl|rfl|rfl
   ·exact hmk 4 (by decide) (by decide)
   ·exact hkw _ (by simp)
   ·exact hmk 2 (by decide) (by decide)
   ·have he:=hb.ck e hck
    have e1:b.e=e:=by unfold Tb.e;rw [hck];rfl
    refine ⟨?_,by rw [e1];exact he.wf,by rw [e1];exact he.dp⟩
    show wX b.ck=b.e.e7
    rw [e1,hck];rfl
   ·exact hmk 3 (by decide) (by decide)
 ·rcases Ai9 _ _ _ _ _ _ h with rfl|rfl|rfl|rfl|⟨m,hm,rfl|rfl⟩
  ·exact hmk 4 (by decide) (by decide)
  ·exact hkw _ (by simp)
  ·exact hkw _ (by simp)
  ·exact hkw _ (by simp)
  ·refine how (key':=nI b.key) (uq':=b.uqV b.u) (lk':=b.lkV m) (g:=wX b.ck) (by omega) ?_ (D9 b.ck) (fun _ _ _ _=>rfl) (fun z tz Y T=>Acy b s z tz Y T hu) (fun z tz Y T=>Akf b s z tz Y T) (fun z tz Y T=>Aka b s z tz Y T (by omega))
   simp only [List.all_cons,Ux b b.u,X6 b m];rfl
  ·have h2:m=0∨m=1:=by omega
   rcases h2 with rfl|rfl
   ·exact ⟨.inr (.inl rfl),(hb.ln 0).key,(hb.ln 0).wd⟩
   ·exact ⟨.inr (.inr rfl),(hb.ln 1).key,(hb.ln 1).wd⟩
 ·exact hmk 3 (by decide) (by decide)
theorem Ao6 {b:Tb} (hb:b.Wf):Ff b.pcs=true:=(b.env []).adj_of b.t b.e b.items (Aht hb.k hb.u b.ck.isSome hb.l).1
theorem Art {b:Tb} (hb:b.Wf):∀ p∈b.pcs,p.2.wf:=fun p hp=>by
 obtain ⟨c,hc,hp⟩:=List.mem_flatMap.1 hp
 exact (b.env []).wf_of b.t b.e (Ah7 hb [] c hc) p hp
theorem Uh (b:Tb):PV.pureL b.val=true:=Ag8 (by simp only [List.all_cons,Ux b b.u,X6 b b.l];rfl) (D9 b.ck)
theorem Oq:∀ (l m:List PV),PV.pureL (l++m)=(PV.pureL l&&PV.pureL m)
 | [],_=>rfl
 | p::l,m=>by simp only [List.cons_append,PV.pureL,Oq l m,Bool.and_assoc]
theorem Ah8 (b:Tb):(Cb 1 b.val [] [] [] .nilslice E7.zero E7.zero).pure=true:=by
 show PV.pureL (nI 1::(b.val++_))=true
 simp only [PV.pureL,Oq,Uh b]
 rfl
theorem Avs {b:Tb} (hb:b.Wf) {s:List UInt8} {i j:Nat} (h:Chain s b.pcs i j):L9 s i j (Cb 1 b.val [] [] [] .nilslice E7.zero E7.zero):=by
 rw [← b.pcs_s s] at h
 have hc:=(b.env s).chn_of b.t b.e b.items (Ah7 hb s) h
 obtain ⟨_,hnx,hla⟩:=Aht hb.k hb.u b.ck.isSome hb.l
 have hk:=Dt (Axh hb.k hb.u b.ck.isSome hb.l)
 obtain ⟨y0,t0,r0,⟨p0,hp0⟩,hrun⟩:=(b.env s).run_of _ (Em "create") hnx hc
 refine ⟨y0,t0,r0,by rw [hp0];show (1:Int)≠0;decide,fun z tz hz _=>?_⟩
 obtain ⟨Y,T,hy0,ht0,q⟩:=hrun hz (fun c hcl=>by
  obtain ⟨t,rfl⟩:=hla c hcl
  trivial)
 have hf:=(b.env s).facts_ok (z:=z) (tz:=tz) (Y:=Y) (T:=T) b.items 0 (fun m c hc=>by rw [Nat.zero_add];exact q.ev m c hc) (by rw [Nat.zero_add];exact q.y) (by rw [Nat.zero_add];exact q.t)
 have hnu:=(b.env s).nu_ok (z:=z) (tz:=tz) (Y:=Y) (T:=T) (D9 b.ck)
 have hT:=Ajr b s z tz Y T (k:=b.k) (key:=.atom 1003) (uq:=Qb b.u) (lk:=Vs b.l) (ck:=Vx b.ck.isSome) (g:=wX b.ck) (key':=nI b.key) (uq':=b.uqV b.u) (lk':=b.lkV b.l) hb.k.2 rfl (Acy b s z tz Y T hb.u) (Akf b s z tz Y T) (Aka b s z tz Y T hb.l)
 have hR:subD ((b.env s).nu z tz Y T) (Alx b.k b.u b.ck.isSome b.l)=Cb 1 b.val [] [] [] .nilslice E7.zero E7.zero:=by
  show PV.agg (nI 1::Cj _ (J4 _ _ _ _ _++_))=_
  rw [Ot,hT]
  rfl
 have hs1:(Tk.res (.kw "create") 0).map (Bz ((b.env s).nu z tz Y T))=Db s (Y 0) (T 0) 0:=(b.env s).ci_res (c:=Em "create") (q.ev 0 (Em "create") rfl).1
 have:=EvS.facts (args:=[.box 0 0]) (s:=Tk.res (.kw "create") 0) (s':=gF 80) Af hnu hk hf rfl (by rw [hs1];rfl) (by
  rw [hR,Ah8 b];rfl)
 rw [hR,hs1] at this
 rw [← hy0,← ht0]
 exact this
open Go Go.RowKit
inductive Sx where
 | cre (b:Tb)
 | drop (nm:List UInt8)
 | link (nm col dst:List UInt8)
 | ins (nm:List UInt8) (vs:List (V4 × List UInt8))
 | upd (nm col:List UInt8) (e:Xp) (w:Option Xp)
 | del (nm:List UInt8) (w:Option Xp)
 | slc (nm:List UInt8) (w:Option Xp)
 | cou (nm:List UInt8) (w:Option Xp)
def Gx (w:Option Xp):Prop:=∀ e,w=some e→J5 e
def Sx.wf:Sx→Prop
 | .cre b=>b.Wf
 | .drop nm=>Ea nm
 | .link nm col dst=>Ea nm∧Ea col∧Ea dst
 | .ins nm vs=>Ea nm∧vs≠[]∧vs.length≤5∧∀ v∈vs,Ie v.1 v.2∧Hk v.2
 | .upd nm col e w=>Ea nm∧Ea col∧J5 e∧Gx w
 | .del nm w | .slc nm w | .cou nm w=>Ea nm∧Gx w
def Sx.pv:Sx→PV
 | .cre b=>Cb 1 b.val [] [] [] .nilslice E7.zero E7.zero
 | .drop nm=>Cb 2 Bh nm [] [] .nilslice E7.zero E7.zero
 | .link nm col dst=>Cb 3 Bh nm col dst .nilslice E7.zero E7.zero
 | .ins nm vs=>Cb 4 Bh nm [] [] (rowP vs) E7.zero E7.zero
 | .upd nm col e w=>Cb 5 Bh nm col [] .nilslice e.e7 (wX w)
 | .del nm w=>Cb 6 Bh nm [] [] .nilslice E7.zero (wX w)
 | .slc nm w=>Cb 7 Bh nm [] [] .nilslice E7.zero (wX w)
 | .cou nm w=>Cb 8 Bh nm [] [] .nilslice E7.zero (wX w)
def Sx.pcs:Sx→List Pc
 | .cre b=>b.pcs
 | .drop nm=>[(false, .w (kw "drop")),(true, .w (kw "table")),(true, .w nm)]
 | .link nm col dst=>[(false, .w (kw "alter")),(true, .w (kw "table")),(true, .w nm),(true, .w (kw "add")),(true, .w (kw "foreign")),(true, .w (kw "key")),(true, .m 2),(false, .w col),(false, .m 3),(true, .w (kw "references")),(true, .w dst)]
 | .ins nm vs=>[(false, .w (kw "insert")),(true, .w (kw "into")),(true, .w nm),(true, .w (kw "values")),(true, .m 2)]++(Gt false vs++[(false, .m 3)])
 | .upd nm col e w=>[(false, .w (kw "update")),(true, .w nm),(true, .w (kw "set")),(true, .w col),(true, .m 6),(true, .x e)]++D3 w
 | .del nm w=>[(false, .w (kw "delete")),(true, .w (kw "from")),(true, .w nm)]++D3 w
 | .slc nm w=>[(false, .w (kw "select")),(true, .m 10),(true, .w (kw "from")),(true, .w nm)]++D3 w
 | .cou nm w=>[(false, .w (kw "select")),(true, .w (kw "count")),(false, .m 2),(false, .m 10),(false, .m 3),(true, .w (kw "from")),(true, .w nm)]++D3 w
def Sx.txt (x:Sx):List UInt8:=B0 x.pcs
theorem Awy {x:Sx} (hx:x.wf) {s:List UInt8} {i j:Nat} (h:Chain s x.pcs i j):L9 s i j x.pv:=by
 match x,hx,h with
 | .cre b,hx,h=>exact Avs hx h
 | .drop nm,hx,h=>exact Aua hx.key h
 | .link nm col dst,hx,h=>exact Atk hx.1.key hx.2.1.key hx.2.2.key h
 | .ins nm vs,hx,h=>exact Aui hx.1.key hx.2.1 hx.2.2.1 h
 | .upd nm col e w,hx,h=>exact Aux hx.1.key hx.2.1.key h
 | .del nm w,hx,h=>exact Avo hx.1.key h
 | .slc nm w,hx,h=>exact Au6 hx.1.key h
 | .cou nm w,hx,h=>exact Auk hx.1.key h
theorem Aij:∀ (vs:List (V4 × List UInt8)) (b:Bool),Ff (Gt b vs++[(false, .m 3)])=true
 | [],_=>rfl
 | [v],_=>rfl
 | v::w::vs,b=>by
  have ih:=Aij (w::vs) true
  have hh:∃ p r,Gt true (w::vs)=p::r:=by
   cases vs with
   | nil=>exact ⟨_,_,rfl⟩
   | cons a l=>exact ⟨_,_,rfl⟩
  obtain ⟨p,r,hp⟩:=hh
  show Ff ((b,It.v v.1 v.2)::(false,It.m 4)::(Gt true (w::vs)++[(false, .m 3)]))=true
  rw [hp] at ih ⊢
  show (true&&(true&&Ff (p::(r++[(false, .m 3)]))))=true
  rw [show Ff (p::(r++[(false, .m 3)]))=true from ih];rfl
theorem Auv {x:Sx} (hx:x.wf):Ff x.pcs=true:=by
 match x,hx with
 | .cre b,hx=>exact Ao6 hx
 | .drop nm,_=>rfl
 | .link nm col dst,_=>rfl
 | .ins nm vs,hx =>
  have h:=Aij vs false
  have hh:∃ p r,Gt false vs=p::r:=by
   have:=hx.2.1
   cases vs with
   | nil=>exact absurd rfl this
   | cons v vs =>
    cases vs with
    | nil=>exact ⟨_,_,rfl⟩
    | cons a l=>exact ⟨_,_,rfl⟩
  obtain ⟨p,r,hp⟩:=hh
  show Ff ([(false,It.w (kw "insert")),(true, .w (kw "into")),(true, .w nm),(true, .w (kw "values")),(true, .m 2)]++(Gt false vs++[(false, .m 3)]))=true
  rw [hp] at h ⊢
  show (true&&(true&&(true&&(true&&(true&&Ff (p::(r++[(false, .m 3)])))))))=true
  rw [show Ff (p::(r++[(false, .m 3)]))=true from h];rfl
 | .upd nm col e w,_=>cases w<;>rfl
 | .del nm w,_=>cases w<;>rfl
 | .slc nm w,_=>cases w<;>rfl
 | .cou nm w,_=>cases w<;>rfl
theorem Ajv:∀ (vs:List (V4 × List UInt8)) (b:Bool),(∀ v∈vs,Ie v.1 v.2∧Hk v.2)→∀ p∈Gt b vs,p.2.wf
 | [],_,_,p,hp=>by cases hp
 | [v],b,h,p,hp=>by
  obtain rfl:p=(b, .v v.1 v.2):=by simpa [Gt] using hp
  exact h v (by simp)
 | v::w::vs,b,h,p,hp=>by
  simp only [Gt,List.mem_cons] at hp
  rcases hp with rfl|rfl|hp
  ·exact h v (by simp)
  ·exact ⟨by decide,by decide⟩
  ·exact Ajv (w::vs) true (fun x hx=>h x (by simp at hx ⊢;exact .inr hx)) p hp
theorem A0d:((["drop", "table", "alter", "add", "foreign", "key", "references", "insert", "into", "values", "update", "set", "delete", "from", "select", "count", "where"]:List String).all fun a=>H5 (kw a))=true:=by decide +kernel
theorem Avd {x:Sx} (hx:x.wf):∀ p∈x.pcs,p.2.wf:=by
 have hk:∀ a,a∈(["drop", "table", "alter", "add", "foreign", "key", "references", "insert", "into", "values", "update", "set", "delete", "from", "select", "count", "where"]:List String)→(It.w (kw a)).wf:=fun a ha=>List.all_eq_true.1 A0d a ha
 have hm:∀ m,m < 11→m≠7→(It.m m).wf:=fun m h1 h2=>⟨h1,h2⟩
 have hw:∀ w,Gx w→∀ p∈D3 w,p.2.wf:=fun w h p hp=>by
  cases w with
  | none=>cases hp
  | some e =>
   simp only [D3,List.mem_cons,List.not_mem_nil,or_false] at hp
   rcases hp with rfl|rfl
   ·exact hk _ (by simp)
   ·exact ⟨(h e rfl).wf,(h e rfl).dp⟩
 match x,hx with
 | .cre b,hx=>exact Art hx
 | .drop nm,hx =>
  intro p hp
  simp only [Sx.pcs,List.mem_cons,List.not_mem_nil,or_false] at hp
  rcases hp with rfl|rfl|rfl
  ·exact hk _ (by simp)
  ·exact hk _ (by simp)
  ·exact hx.wd
 | .link nm col dst,hx =>
  intro p hp
  simp only [Sx.pcs,List.mem_cons,List.not_mem_nil,or_false] at hp
  rcases hp with rfl|rfl|rfl|rfl|rfl|rfl|rfl|rfl|rfl|rfl|rfl
  ·exact hk _ (by simp)
  ·exact hk _ (by simp)
  ·exact hx.1.wd
  ·exact hk _ (by simp)
  ·exact hk _ (by simp)
  ·exact hk _ (by simp)
  ·exact hm 2 (by decide) (by decide)
  ·exact hx.2.1.wd
  ·exact hm 3 (by decide) (by decide)
  ·exact hk _ (by simp)
  ·exact hx.2.2.wd
 | .ins nm vs,hx =>
  intro p hp
  simp only [Sx.pcs,List.mem_append,List.mem_cons,List.not_mem_nil,or_false] at hp
  rcases hp with (rfl|rfl|rfl|rfl|rfl)|hp|rfl
  ·exact hk _ (by simp)
  ·exact hk _ (by simp)
  ·exact hx.1.wd
  ·exact hk _ (by simp)
  ·exact hm 2 (by decide) (by decide)
  ·exact Ajv vs false hx.2.2.2 p hp
  ·exact hm 3 (by decide) (by decide)
 | .upd nm col e w,hx =>
  intro p hp
  simp only [Sx.pcs,List.mem_append,List.mem_cons,List.not_mem_nil,or_false] at hp
  rcases hp with (rfl|rfl|rfl|rfl|rfl|rfl)|hp
  ·exact hk _ (by simp)
  ·exact hx.1.wd
  ·exact hk _ (by simp)
  ·exact hx.2.1.wd
  ·exact hm 6 (by decide) (by decide)
  ·exact ⟨hx.2.2.1.wf,hx.2.2.1.dp⟩
  ·exact hw w hx.2.2.2 p hp
 | .del nm w,hx =>
  intro p hp
  simp only [Sx.pcs,List.mem_append,List.mem_cons,List.not_mem_nil,or_false] at hp
  rcases hp with (rfl|rfl|rfl)|hp
  ·exact hk _ (by simp)
  ·exact hk _ (by simp)
  ·exact hx.1.wd
  ·exact hw w hx.2 p hp
 | .slc nm w,hx =>
  intro p hp
  simp only [Sx.pcs,List.mem_append,List.mem_cons,List.not_mem_nil,or_false] at hp
  rcases hp with (rfl|rfl|rfl|rfl)|hp
  ·exact hk _ (by simp)
  ·exact hm 10 (by decide) (by decide)
  ·exact hk _ (by simp)
  ·exact hx.1.wd
  ·exact hw w hx.2 p hp
 | .cou nm w,hx =>
  intro p hp
  simp only [Sx.pcs,List.mem_append,List.mem_cons,List.not_mem_nil,or_false] at hp
  rcases hp with (rfl|rfl|rfl|rfl|rfl|rfl|rfl)|hp
  ·exact hk _ (by simp)
  ·exact hk _ (by simp)
  ·exact hm 2 (by decide) (by decide)
  ·exact hm 10 (by decide) (by decide)
  ·exact hm 3 (by decide) (by decide)
  ·exact hk _ (by simp)
  ·exact hx.1.wd
  ·exact hw w hx.2 p hp
theorem Axu (x:Sx):x.pcs≠[]:=by
 cases x<;>(intro h;cases h)
theorem Nv {x:Sx}:(x.pv.pure&&(match x.pv with | .agg cs=>cs.all PV.clean|_=>false))=true:=by
 have hX:∀ w:Option Xp,PV.pureL (wX w).L=true∧(wX w).L.all PV.clean=true:=fun w=>by
  have h:=D9 w
  simp only [E7.ok,E7.L,List.all_cons,List.all_nil,Bool.and_eq_true,Bool.and_true] at h
  simp [E7.L,PV.pureL,h]
 have hE:∀ e:Xp,PV.pureL e.e7.L=true∧e.e7.L.all PV.clean=true:=fun e=>by
  have h:=Bg e
  simp only [E7.ok,E7.L,List.all_cons,List.all_nil,Bool.and_eq_true,Bool.and_true] at h
  simp [E7.L,PV.pureL,h]
 have hT:∀ b:Tb,b.val.all PV.clean=true:=fun b=>by
  have h1:=Ux b b.u
  have h2:=X6 b b.l
  have h3:=(hX b.ck).2
  simp only [Bool.and_eq_true] at h1 h2
  show ([PV.str b.nm,_,_,_]++((wX b.ck).L++[_])).all PV.clean=true
  rw [List.all_append,List.all_append,h3]
  simp only [List.all_cons,h1.1,h2.1]
  rfl
 have gen:∀ (k:Int) (T:List PV) (nm col dst:List UInt8) (row:PV) (e w:E7),PV.pureL T=true→T.all PV.clean=true→(row.clean&&row.pure)=true→PV.pureL e.L=true∧e.L.all PV.clean=true→PV.pureL w.L=true∧w.L.all PV.clean=true→((Cb k T nm col dst row e w).pure&&(match Cb k T nm col dst row e w with | .agg cs=>cs.all PV.clean|_=>false))=true:=fun k T nm col dst row e w h1 h2 h3 h4 h5=>by
  simp only [Bool.and_eq_true] at h3
  show (PV.pureL (nI k::(T++([.str nm, .str col, .str dst,row]++(e.L++w.L))))&&(nI k::(T++([PV.str nm, .str col, .str dst,row]++(e.L++w.L)))).all PV.clean)=true
  simp only [PV.pureL,Oq,List.all_cons,List.all_append,h1,h2,h3,h4,h5]
  rfl
 have z0:PV.pureL E7.zero.L=true∧E7.zero.L.all PV.clean=true:=⟨rfl,rfl⟩
 cases x with
 | cre b=>exact gen _ _ _ _ _ _ _ _ (Uh b) (hT b) rfl z0 z0
 | drop nm=>exact gen _ _ _ _ _ _ _ _ rfl rfl rfl z0 z0
 | link nm col dst=>exact gen _ _ _ _ _ _ _ _ rfl rfl rfl z0 z0
 | ins nm vs=>exact gen _ _ _ _ _ _ _ _ rfl rfl (by show (true&&PV.pureL _)=true;rw [W8];rfl) z0 z0
 | upd nm col e w=>exact gen _ _ _ _ _ _ _ _ rfl rfl rfl (hE e) (hX w)
 | del nm w=>exact gen _ _ _ _ _ _ _ _ rfl rfl rfl z0 (hX w)
 | slc nm w=>exact gen _ _ _ _ _ _ _ _ rfl rfl rfl z0 (hX w)
 | cou nm w=>exact gen _ _ _ _ _ _ _ _ rfl rfl rfl z0 (hX w)
open Go Go.RowKit
def Eu (j:Nat):PV:=.agg ((List.range 31).map fun i=>.atom (j+i))
def eoS (j:Nat):List Aa:=Jn (.atom 0) (nI 0) (.atom j) (.str []) (nI 0) (nI 0) (nI 0) (.str []) (.atom (j+1)) (nI 0)
def paF:List Ao:=[.op (.len Ar) [.atom 0] (.atom 1),oI .gtr (.atom 1) (nI 4000) (.bool false), .prim Iw [.atom 0,nI 0] (.tup [H7 (.atom 10) (.atom 11) (.atom 12) (.atom 13) (.atom 14) (.atom 15) (.atom 16) (nI 0), .atom 17]),oI .eql (.atom 10) (nI 6) (.bool false),
 .st V3 [.box 0 0] (gS 10) (Eu 30) (eoS 20)]
theorem Az6:A0 (.tup [Eu 30,nI 0,nI 0]) (Am PG (Aj An paF) 30 Qi [.atom 0] [])=true:=by kernel_rfl
def Adm:PV:=Cf (nI 0) Bh (.str []) (.str []) (.str []) .nilslice E7.zero.L E7.zero.L
theorem Atb:A0 (.tup [Adm,nI 0,nI 11]) (Am PG (Aj An [.op (.len Ar) [.atom 0] (.atom 1),oI .gtr (.atom 1) (nI 4000) (.bool true)]) 30 Qi [.atom 0] [])=true:=by kernel_rfl
open Go Go.RowKit
def Sx.cells (x:Sx):List PV:=match x.pv with | .agg cs=>cs|_=>[]
theorem Wz (x:Sx):x.pv = .agg x.cells:=by cases x<;>rfl
theorem Q6 (x:Sx):x.cells.length=31:=by cases x<;>rfl
theorem Ai5 (x:Sx):(x.cells.all fun p=>p.clean&&p.pure)=true:=by
 have h:=Nv (x:=x)
 rw [Wz] at h
 simp only [PV.pure,Bool.and_eq_true] at h
 refine List.all_eq_true.2 fun p hp=>?_
 rw [Bool.and_eq_true]
 exact ⟨List.all_eq_true.1 h.2 p hp,I9 h.1 p hp⟩
theorem Ajt {nu:Nat→PV} {j:Nat} {C:List PV} (hl:C.length=31) (h:∀ i,i < 31→nu (j+i)=C.getD i (nI 0)):subD nu (Eu j) = .agg C:=by
 show PV.agg (Cj nu _)=_
 rw [Gg,List.map_map]
 congr 1
 refine List.ext_getElem? fun i=>?_
 rw [List.getElem?_map]
 by_cases hi:i < 31
 ·rw [List.getElem?_range hi,List.getElem?_eq_getElem (by omega)]
  show some (nu (j+i))=_
  rw [h i hi,List.getD_eq_getElem?_getD,List.getElem?_eq_getElem (by omega)]
  rfl
 ·rw [List.getElem?_eq_none (by simp;omega),List.getElem?_eq_none (by omega)]
  rfl
theorem Akg {pre C:List PV} {j i:Nat} (hp:pre.length=j) (hi:i < C.length) (hj:j+C.length≤1000):Ab (pre++C) (j+i)=C.getD i (nI 0):=by
 show F3 _ _ _=_
 unfold F3
 rw [show Nat.ble 1000 (j+i)=false by rw [← Bool.not_eq_true,Nat.ble_eq];omega]
 show (pre++C).getD (j+i) (.bool false)=_
 rw [List.getD_eq_getElem?_getD,List.getElem?_append_right (by omega),List.getD_eq_getElem?_getD,show j+i - pre.length=i by omega,List.getElem?_eq_getElem hi]
 rfl
theorem Anu {g:List UInt8} (h:g.all Bf=true):Gu g=true:=by
 cases g with
 | nil=>rfl
 | cons c g =>
  simp only [List.all_cons,Bool.and_eq_true,Bf,Bool.or_eq_true,beq_iff_eq] at h
  rcases h.1 with rfl|rfl<;>rfl
theorem Ar9 (a:Nat):zok (Ade a):=⟨rfl,Ao2 a⟩
def Vk (s:List UInt8) (y:Sg) (tu:Nat) (C:List PV):List PV:=[.str s,nI s.length,nI 0,nI 0,nI 0,nI 0,nI 0,nI 0,nI 0,nI 0]++(sv y tu++([nI 0,nI 0,nI s.length,nI s.length,nI 0,nI 0,nI 0,nI 0,nI 0,nI 0,nI 0,nI 0]++C))
theorem Au1 (x:Sx):((PV.tup [x.pv,nI 0,nI 0]).pure&&(PV.tup [x.pv,nI 0,nI 0]).shut2)=true:=by
 have h:=Nv (x:=x)
 rw [Wz] at h ⊢
 simp only [Bool.and_eq_true] at h
 show ((PV.pure (.agg x.cells)&&(true&&(true&&true)))&&(x.cells.all PV.clean&&(true&&(true&&true))))=true
 rw [h.1,show x.cells.all PV.clean=true from h.2];rfl
theorem Ap9 {x:Sx} (hx:x.wf) {t g0 g1 s:List UInt8} (ht:Wr x.pcs t) (hg0:g0.all Bf=true) (hg1:g1.all Bf=true) (hs:s=g0++(t++g1)) (hl:s.length≤4000):Ev PG Qi [.str s] (.tup [x.pv,nI 0,nI 0]):=by
 obtain ⟨j,hc,hd,hj⟩:=Aif hl x.pcs (Axu x) (Avd hx) (Auv hx) ht (Nat.zero_le _) hg0 (Anu hg1) (i:=0) (by rw [hs];rfl)
 obtain ⟨y,tu,hy,hk,h⟩:=Awy hx hc
 have hev:=h _ _ (Aul (by omega) hj hd hg1) (Ar9 _)
 have hye:=hy.ev
 have h0:=hy.e
 have hyk:=hy.k
 obtain ⟨k,ya,w,yv,e⟩:=y
 dsimp only at h0 hyk
 subst h0
 have hS:subD (Ab (Vk s ⟨k,ya,w,yv,0⟩ tu x.cells)) (Eu 30)=x.pv:=by
  rw [Wz]
  refine Ajt (Q6 x) fun i hi=>?_
  exact Akg (pre:=[.str s,nI s.length,nI 0,nI 0,nI 0,nI 0,nI 0,nI 0,nI 0,nI 0]++(sv ⟨k,ya,w,yv,0⟩ tu++[nI 0,nI 0,nI s.length,nI s.length,nI 0,nI 0,nI 0,nI 0,nI 0,nI 0,nI 0,nI 0])) rfl (by rw [Q6];exact hi) (by rw [Q6];decide)
 have hnu:Bc (Ab (Vk s ⟨k,ya,w,yv,0⟩ tu x.cells)):=by
  refine Ap ?_
  unfold Vk
  rw [List.all_append,List.all_append,List.all_append,Ai5 x]
  rfl
 have:=Ev.facts (nu:=Ab (Vk s ⟨k,ya,w,yv,0⟩ tu x.cells)) (args:=[.atom 0]) (r:=.tup [Eu 30,nI 0,nI 0]) Af hnu (As Az6)
  ⟨C2 rfl rfl rfl,Av (c:=false) (a:=s.length) (b:=4000) rfl rfl rfl (by simp only [Aq];rw [decide_eq_false (by omega)]) (by decide) rfl,Ai hye rfl rfl rfl,Av (c:=false) rfl rfl rfl (by rw [Hu,beq_eq_false_iff_ne.2 hyk]) (by decide) rfl,
   Aw hev rfl rfl hS rfl rfl,trivial⟩ rfl (by
    show ((PV.tup [subD _ (Eu 30),nI 0,nI 0]).pure&&(PV.tup [subD _ (Eu 30),nI 0,nI 0]).shut2)=true
    rw [hS];exact Au1 x)
 have e:subD (Ab (Vk s ⟨k,ya,w,yv,0⟩ tu x.cells)) (.tup [Eu 30,nI 0,nI 0]) = .tup [x.pv,nI 0,nI 0]:=by
  show PV.tup [subD _ (Eu 30),nI 0,nI 0]=_
  rw [hS]
 rw [e] at this
 exact this
theorem Aoq {s:List UInt8} (h0:s.length≤9223372036854775807) (h:4000 < s.length):Ev PG Qi [.str s] (.tup [Adm,nI 0,nI 11]) :=
 Ev.facts (nu:=Ab [.str s,nI s.length]) (args:=[.atom 0]) Af (Ap rfl) (As Atb) ⟨C2 rfl rfl rfl,Av (c:=true) (a:=s.length) (b:=4000) rfl rfl rfl (by simp only [Aq];rw [decide_eq_true (by omega)]) (by decide) rfl,trivial⟩ rfl rfl
open Go Go.RowKit
def Fb:List PV:=(List.range 12).map fun i=>.atom i
def Zg (i:Nat):List Aa:=(List.range i).map fun m=>.box [.atom (12+3*m), .atom (13+3*m), .atom (14+3*m)]
def Cm (i:Nat):List Aa:=.box Fb::Zg i
def frL:PV:=.slice 1 [nI 0,nI 5,nI 9,nI 13,nI 18]
def toL:PV:=.slice 1 [nI 4,nI 8,nI 12,nI 17,nI 23]
def crT (i s:PV):List (Nat × PV):=[(1, .box 0 0),(3,s),(4,frL),(5,toL),(6,i)]
noncomputable abbrev Q8 (rid:Nat) (fs:List Ao) (T:List (Nat × PV)) (s:List Aa):Option (Ex × St):=Gv PG (Aj An fs) (Am PG (Aj An fs) 5) ((Aj An fs).loop F9) 5 3 (Du PG F9 rid) ⟨T,s⟩
def S9 (ty:Nat) (c:Nat) (b:Bool):List Ao:=[.op (.len ty) [.atom c] (.atom 25),oI .lss (.atom 24) (.atom 25) (.bool b)]
def crC (t:Nat) (nn:Bool):List Ao :=
 S9 G9 1 true++[.op (.ix G9) [.atom 1, .atom 24] (.ref [.atom 33,nI (t+1:Nat), .bool nn]),sA (.atom 26) (.atom 33) (.atom 27),sA (.atom 27) (.str [32]) (.atom 28),sA (.atom 28) (.str (kw (E9.getD t ""))) (.atom 29)] ++
 (match nn with|true=>[sA (.atom 29) (.str (kw " not null")) (.atom 30),sA (.atom 30) (.str (kw ", ")) (.atom 31)]|false=>[sA (.atom 29) (.str (kw ", ")) (.atom 31)])++[oI .add (.atom 24) (nI 1) (.atom 32)]
theorem Abn:Hj PG F9 5=true:=by kernel_rfl
theorem Aa1:Hj PG F9 14=true:=by kernel_rfl
theorem Abg:Hj PG F9 20=true:=by kernel_rfl
theorem Axn:((List.range 5).all fun i=>Dc (Q8 5 (S9 G9 1 false) (crT (.atom 24) (.atom 26)) (Cm i)) (.exit 0) [(1, .box 0 0),(3, .atom 26)] (Cm i))=true:=by kernel_rfl
theorem Awe:((List.range 4).all fun i=>(List.range 5).all fun t=>bl fun nn=>Dc (Q8 5 (crC t nn) (crT (.atom 24) (.atom 26)) (Cm i)) .normal (crT (.atom 32) (.atom 31)) (Cm i++[.box [.atom 33,nI (t+1:Nat), .bool nn]]))=true:=by kernel_rfl
def uqT (i s:PV):List (Nat × PV):=[(1, .box 0 0),(3,s),(8,i)]
def crU:List Ao:=S9 Gl 3 true++[.op (.ix Gl) [.atom 3, .atom 24] (.ref [.atom 34]), .op (.ix G9) [.atom 1, .atom 34] (.ref [.atom 33, .atom 35, .atom 36]),sA (.atom 26) (.str (kw ", unique (")) (.atom 27),sA (.atom 27) (.atom 33) (.atom 28),sA (.atom 28) (.str (kw ")")) (.atom 31),oI .add (.atom 24) (nI 1) (.atom 32)]
theorem Ax0:((List.range 5).all fun k=>Dc (Q8 14 (S9 Gl 3 false) (uqT (.atom 24) (.atom 26)) (Cm k)) (.exit 2) [(1, .box 0 0),(3, .atom 26)] (Cm k))=true:=by kernel_rfl
theorem Aw0:((List.range 5).all fun k=>Dc (Q8 14 crU (uqT (.atom 24) (.atom 26)) (Cm k)) .normal (uqT (.atom 32) (.atom 31)) (Cm k))=true:=by kernel_rfl
def lkT (i s:PV):List (Nat × PV):=[(1, .box 0 0),(3,s),(9,i)]
def crK:List Ao:=S9 Of 11 true++[.op (.ix Of) [.atom 11, .atom 24] (.ref [.atom 34, .atom 37]), .op (.ix G9) [.atom 1, .atom 34] (.ref [.atom 33, .atom 35, .atom 36]),sA (.atom 26) (.str (kw ", foreign key (")) (.atom 27),sA (.atom 27) (.atom 33) (.atom 28),sA (.atom 28) (.str (kw ") references ")) (.atom 29),sA (.atom 29) (.atom 37) (.atom 31),oI .add (.atom 24) (nI 1) (.atom 32)]
theorem Aw8:((List.range 5).all fun k=>Dc (Q8 20 (S9 Of 11 false) (lkT (.atom 24) (.atom 26)) (Cm k)) (.exit 4) [(1, .box 0 0),(3, .atom 26)] (Cm k))=true:=by kernel_rfl
theorem Av8:((List.range 5).all fun k=>Dc (Q8 20 crK (lkT (.atom 24) (.atom 26)) (Cm k)) .normal (lkT (.atom 32) (.atom 31)) (Cm k))=true:=by kernel_rfl
def crF (k : Nat) (ck : Bool) : List Ao :=
  [sA (.str (kw "create table ")) (.atom 0) (.atom 39), sA (.atom 39) (.str (kw " (")) (.atom 40), .loop F9 5 (crT (nI 0) (.atom 40)) (Cm 0) (.exit 0) [(1, .box 0 0), (3, .atom 41)] (Cm k),
   sA (.atom 41) (.str (kw "primary key (")) (.atom 42), .op (.ix G9) [.atom 1, .atom 2] (.ref [.atom 33, .atom 35, .atom 36]), sA (.atom 42) (.atom 33) (.atom 43), sA (.atom 43) (.str (kw ")")) (.atom 44),
   .loop F9 14 (uqT (nI 0) (.atom 44)) (Cm k) (.exit 2) [(1, .box 0 0), (3, .atom 45)] (Cm k)] ++
  (match ck with
    | true => [oI .neq (.atom 4) (nI 0) (.bool true), sA (.atom 45) (.str (kw ", check (")) (.atom 49), .prim Hw [.agg ((List.range 7).map fun i => .atom (4 + i))] (.atom 50), sA (.atom 49) (.atom 50) (.atom 51), sA (.atom 51) (.str (kw ")")) (.atom 46)]
    | false => [oI .neq (.atom 4) (nI 0) (.bool false)]) ++
  [.loop F9 20 (lkT (nI 0) (.atom (if ck then 46 else 45))) (Cm k) (.exit 4) [(1, .box 0 0), (3, .atom 47)] (Cm k), sA (.atom 47) (.str (kw ")")) (.atom 48)]
theorem Ak0:((List.range 5).all fun k=>bl fun ck=>A0 (.atom 48) (Am PG (Aj An (crF k ck)) 10 F9 [.agg Fb] []))=true:=by kernel_rfl
open Go Go.RowKit
section
variable (b:Tb)
def Tb.cb (i:Nat):List PV:=[.str (A5 i),nI (b.ty i), .bool (b.nn i)]
def Tb.base:List PV:=b.val++(b.cb 0++(b.cb 1++(b.cb 2++b.cb 3)))
def Tb.rNu (i n:Int) (S a c d e f w:List UInt8) (ix:Int) (p q:PV) (w2:List UInt8):List PV:=b.base++[nI i,nI n, .str S, .str a, .str c, .str d, .str e, .str f,nI (i+1), .str w,nI ix,p,q, .str w2]
def Tb.cs (i:Nat):List Aa:=.box b.val::(List.range i).map fun m=>.box (b.cb m)
theorem Qr:(b.val.all fun p=>p.clean&&p.pure)=true:=by
 have h1:=Ux b b.u
 have h2:=X6 b b.l
 have h3:((wX b.ck).L.all fun p=>p.clean&&p.pure)=true:=D9 b.ck
 have e1:PV.pureL ((List.range b.k).map (E8 b.ty b.nn))=true:=by
  generalize List.range b.k=l
  induction l with
  | nil=>rfl
  | cons a l ih=>simp only [List.map_cons,PV.pureL,ih];rfl
 show (([PV.str b.nm, .slice 3 ((List.range b.k).map (E8 b.ty b.nn)),nI b.key,b.uqV b.u]++((wX b.ck).L++[b.lkV b.l])).all fun p=>p.clean&&p.pure)=true
 rw [List.all_append,List.all_append,h3]
 have hc:((PV.slice 3 ((List.range b.k).map (E8 b.ty b.nn))).clean&&(PV.slice 3 ((List.range b.k).map (E8 b.ty b.nn))).pure)=true:=by
  show (true&&PV.pureL _)=true
  rw [e1];rfl
 simp only [List.all_cons,List.all_nil,h1,h2,hc]
 rfl
theorem Agz:(b.base.all fun p=>p.clean&&p.pure)=true:=by
 unfold Tb.base
 rw [List.all_append,Qr]
 rfl
theorem Q4 {i n:Int} {S a c d e f w:List UInt8} {ix:Int} {p q:PV} {w2:List UInt8} (hp:(p.clean&&p.pure)=true) (hq:(q.clean&&q.pure)=true):Bc (Ab (b.rNu i n S a c d e f w ix p q w2)):=by
 refine Ap ?_
 unfold Tb.rNu
 rw [List.all_append,Agz]
 simp only [List.all_cons,List.all_nil,hp,hq]
 rfl
theorem Gp {X:List PV} {i:Nat} (hi:i≤4):(Cm i).map (Bz (Ab (b.base++X)))=b.cs i:=by
 have:i=0∨i=1∨i=2∨i=3∨i=4:=by omega
 rcases this with rfl|rfl|rfl|rfl|rfl<;>rfl
theorem L2 (i:Nat) (nu:Nat→PV):(Cm i).all (Gs nu)=true:=by
 show (Gs nu (.box Fb)&&(Zg i).all (Gs nu))=true
 have h:(Zg i).all (Gs nu)=true:=by
  refine List.all_eq_true.2 fun r hr=>?_
  obtain ⟨m,_,rfl⟩:=List.mem_map.1 hr
  rfl
 rw [h];rfl
theorem Je (i:Nat):(b.cs i).all Hi=true:=by
 show (Hi (.box b.val)&&((List.range i).map fun m=>Aa.box (b.cb m)).all Hi)=true
 have h:b.val.all PV.pure=true:=List.all_eq_true.2 fun p hp=>by
  have:=List.all_eq_true.1 (Qr b) p hp
  rw [Bool.and_eq_true] at this
  exact this.2
 rw [show Hi (.box b.val)=true from h,Bool.true_and]
 refine List.all_eq_true.2 fun r hr=>?_
 obtain ⟨m,_,rfl⟩:=List.mem_map.1 hr
 rfl
def Tb.colT (i:Nat):List UInt8:=A5 i++([32]++(kw (E9.getD (b.t i) "")++((match b.nn i with|true=>kw " not null" | false=>[])++kw ", ")))
def Tb.colsT:Nat→List UInt8
 | 0=>[]
 | i+1=>Tb.colsT i++b.colT i
def Tb.uqT (i:Nat):List UInt8:=kw ", unique (" ++ (A5 (b.uq i)++kw ")")
def Tb.uqsT:Nat→List UInt8
 | 0=>[]
 | i+1=>Tb.uqsT i++b.uqT i
def Tb.lkT (i:Nat):List UInt8:=kw ", foreign key (" ++ (A5 (b.lc i)++(kw ") references " ++ b.ln i))
def Tb.lksT:Nat→List UInt8
 | 0=>[]
 | i+1=>Tb.lksT i++b.lkT i
end
theorem Xi:∀ m,m < 5→(kw (E9.getD m "")).length≤5:=by decide +kernel
theorem Dv {w:List UInt8} (h:Ea w):w.length≤12:=by
 have:=h.wd
 cases w with
 | nil=>cases this
 | cons c r =>
  simp only [H5,Bool.and_eq_true,Nat.ble_eq] at this
  simp;omega
section
variable {b:Tb} (hb:b.Wf)
include hb
theorem Aia (i:Nat):(b.colT i).length≤18:=by
 have h1:=Xi (b.t i) (hb.t i)
 unfold Tb.colT
 have h2:(match b.nn i with|true=>kw " not null" | false=>[]).length≤9:=by cases b.nn i<;>decide
 have h3:(kw ", ").length=2:=by decide
 simp only [List.length_append,List.length_cons,List.length_nil,h3,show (A5 i).length=1 from rfl]
 omega
theorem Abk (i:Nat):(b.colsT i).length≤18*i:=by
 induction i with
 | zero=>simp [Tb.colsT]
 | succ i ih =>
  have:=Aia hb i
  simp only [Tb.colsT,List.length_append]
  omega
theorem Ab4 (i:Nat):(b.uqsT i).length≤12*i:=by
 have _h:=hb.k
 induction i with
 | zero=>simp [Tb.uqsT]
 | succ i ih =>
  have h1:(kw ", unique (").length=10:=by decide
  have h2:(kw ")").length=1:=by decide
  simp only [Tb.uqsT,Tb.uqT,List.length_append,h1,h2,show (A5 (b.uq i)).length=1 from rfl]
  omega
theorem Abr (i:Nat):(b.lksT i).length≤60*i:=by
 induction i with
 | zero=>simp [Tb.lksT]
 | succ i ih =>
  have h1:(kw ", foreign key (").length=15:=by decide
  have h2:(kw ") references ").length=13:=by decide
  have h3:=Dv (hb.ln i)
  simp only [Tb.lksT,Tb.lkT,List.length_append,h1,h2,show (A5 (b.lc i)).length=1 from rfl]
  omega
theorem Ah9:E3 PG G9 (.slice 3 ((List.range b.k).map (E8 b.ty b.nn)))=some (nI b.k):=by
 have _h:=hb.k
 have hu:PG.underlying G9=some (.slice Lh):=by kernel_rfl
 unfold E3
 rw [hu]
 show some (nI ((List.map (E8 b.ty b.nn) (List.range b.k)).length:Nat))=_
 simp
theorem X7 {i:Nat} (hi:i < b.k):Gf PG G9 (.slice 3 ((List.range b.k).map (E8 b.ty b.nn))) (nI i)=some (.ref [.str (A5 i),nI (b.ty i), .bool (b.nn i)]):=by
 have _h:=hb.k
 have hu:PG.underlying G9=some (.slice Lh):=by kernel_rfl
 have hs:Dl PG Lh=some 3:=by kernel_rfl
 unfold Gf
 rw [hu]
 have:((List.range b.k).map (E8 b.ty b.nn))[((i:Nat):Int).toNat]? = some (E8 b.ty b.nn i):=by
  simp [hi]
 simp only [hs,true_and]
 rw [if_pos (by omega),this]
 rfl
set_option maxRecDepth 40000 in
theorem Ap5 {S0:List UInt8} (hS:S0.length≤1000000):∀ (d i:Nat),i+d=b.k→By PG (Fq PG F9) (Du PG F9 5) (crT (nI i) (.str (S0++b.colsT i))) (b.cs i) (.exit 0) [(1, .box 0 0),(3, .str (S0++b.colsT b.k))] (b.cs b.k):=by
 have hk:=hb.k
 intro d
 induction d with
 | zero =>
  intro i hi
  obtain rfl:i=b.k:=by omega
  refine By.leave ?_ (fun h=>by cases h)
  have:=Ci.chk (nu:=Ab (b.rNu b.k b.k (S0++b.colsT b.k) [] [] [] [] [] [] 0 (nI 0) (nI 0) [])) Af (Q4 b rfl rfl) (T:=crT (.atom 24) (.atom 26)) (s:=Cm b.k) (T':=[(1, .box 0 0),(3, .atom 26)]) (s':=Cm b.k) Abn (List.all_eq_true.1 Axn b.k (by rw [List.mem_range];omega))
   ⟨⟨Ah9 hb,rfl⟩,Av (a:=b.k) (b:=b.k) (c:=false) rfl rfl rfl (by simp only [Aq];rw [decide_eq_false (by omega)]) (by decide) rfl,trivial⟩ rfl (by unfold Tb.rNu;rw [L2,Gp b (by omega),Je];rfl) (by unfold Tb.rNu;rw [Gp b (by omega),Je];rfl)
  unfold Tb.rNu at this
  rw [Gp b (by omega)] at this
  exact this
 | succ d ih =>
  intro i hi
  have hl:=Abk hb i
  have hct:=Aia hb i
  have e4:IntKind.i64.wrap ((i:Int)+1)=(i:Int)+1:=Dn (by omega) (by omega)
  have h:=ih (i+1) (by omega)
  have hty:=Xi (b.t i) (hb.t i)
  have hx:=X7 hb (i:=i) (by omega)
  have hkk:=Bo (List.all_eq_true.1 (List.all_eq_true.1 Awe i (by rw [List.mem_range];omega)) (b.t i) (by rw [List.mem_range];exact hb.t i)) (b.nn i)
  obtain ⟨S,hSe⟩:∃ S,S=S0++b.colsT i:=⟨_,rfl⟩
  have hSl:S.length≤1000100:=by rw [hSe,List.length_append];omega
  have eS:S0++b.colsT (i+1)=S++b.colT i:=by rw [hSe];simp [Tb.colsT]
  rw [← hSe]
  rw [eS] at h
  have hn1:(kw " not null").length=9:=by decide
  have hn2:(kw ", ").length=2:=by decide
  obtain ⟨S3,hS3⟩:∃ S3,S3=S++A5 i++[32]++kw (E9.getD (b.t i) ""):=⟨_,rfl⟩
  have hS3l:S3.length≤1000200:=by rw [hS3];simp only [List.length_append,List.length_cons,List.length_nil,show (A5 i).length=1 from rfl];omega
  refine By.round ?_ h
  have hnu:Bc (Ab (b.rNu i b.k S (S++A5 i) (S++A5 i++[32]) S3 (S3++kw " not null") (S++b.colT i) (A5 i) 0 (nI 0) (nI 0) [])):=Q4 b rfl rfl
  have hf:Ah PG (Ab (b.rNu i b.k S (S++A5 i) (S++A5 i++[32]) S3 (S3++kw " not null") (S++b.colT i) (A5 i) 0 (nI 0) (nI 0) [])) (crC (b.t i) (b.nn i)):=by
   unfold crC
   refine Ah.append (Ah.append (Ah.append ⟨⟨Ah9 hb,rfl⟩,Av (a:=i) (b:=b.k) (c:=true) rfl rfl rfl (by simp only [Aq];rw [decide_eq_true (by omega)]) (by decide) rfl,trivial⟩ ⟨⟨hx,rfl⟩,
    Ax (l:=S) (m:=A5 i) rfl rfl (by rw [show (A5 i).length=1 from rfl];omega) rfl rfl,Ax (l:=S++A5 i) (m:=[32]) rfl rfl (by simp only [List.length_append,List.length_cons,List.length_nil,show (A5 i).length=1 from rfl];omega) rfl rfl,
    Ax (l:=S++A5 i++[32]) (m:=kw (E9.getD (b.t i) "")) rfl rfl (by simp only [List.length_append,List.length_cons,List.length_nil,show (A5 i).length=1 from rfl];omega) (by rw [← hS3];rfl) rfl,trivial⟩) ?_) ⟨Bm (a:=i) (b:=1) rfl rfl rfl (by simp only [Aq];rw [e4]) (by decide) rfl,trivial⟩
   cases hn:b.nn i with
   | true =>
    have e:S3++kw " not null" ++ kw ", " = S++b.colT i:=by rw [hS3];simp [Tb.colT,hn]
    exact ⟨Ax (l:=S3) (m:=kw " not null") rfl rfl (by omega) rfl rfl,Ax (l:=S3++kw " not null") (m:=kw ", ") rfl rfl (by rw [List.length_append];omega) (by rw [e];rfl) rfl,trivial⟩
   | false =>
    have e:S3++kw ", " = S++b.colT i:=by rw [hS3];simp [Tb.colT,hn]
    exact ⟨Ax (l:=S3) (m:=kw ", ") rfl rfl (by omega) (by rw [e];rfl) rfl,trivial⟩
  have e2:(Cm i++[Aa.box [.atom 33,nI (b.t i+1:Nat), .bool (b.nn i)]]).map (Bz (Ab (b.rNu i b.k S (S++A5 i) (S++A5 i++[32]) S3 (S3++kw " not null") (S++b.colT i) (A5 i) 0 (nI 0) (nI 0) [])))=b.cs (i+1):=by
   unfold Tb.rNu
   rw [List.map_append,Gp b (by omega)]
   unfold Tb.cs
   rw [List.range_succ,List.map_append]
   rfl
  have e1:(Cm i).map (Bz (Ab (b.rNu i b.k S (S++A5 i) (S++A5 i++[32]) S3 (S3++kw " not null") (S++b.colT i) (A5 i) 0 (nI 0) (nI 0) [])))=b.cs i:=Gp b (by omega)
  have:=Ci.chk Af hnu (T:=crT (.atom 24) (.atom 26)) (s:=Cm i) (T':=crT (.atom 32) (.atom 31)) (s':=Cm i++[Aa.box [.atom 33,nI (b.t i+1:Nat), .bool (b.nn i)]]) Abn hkk hf rfl (by rw [L2,e1,Je];rfl) (by rw [e2,Je];rfl)
  rw [e1,e2] at this
  exact this
end
open Go Go.RowKit
section
variable {b:Tb} (hb:b.Wf)
theorem Aj7:E3 PG Gl (b.uqV b.u)=some (nI b.u):=by
 have hu:PG.underlying Gl=some (.slice Eh):=by kernel_rfl
 unfold E3 Tb.uqV
 rw [hu]
 cases b.u with
 | zero=>rfl
 | succ m =>
  show some (nI ((List.map _ (List.range (m+1))).length:Nat))=_
  simp
theorem Av6 {i:Nat} (hi:i < b.u):Gf PG Gl (b.uqV b.u) (nI i)=some (.ref [nI (b.uq i)]):=by
 have hu:PG.underlying Gl=some (.slice Eh):=by kernel_rfl
 have hs:Dl PG Eh=some 1:=by kernel_rfl
 obtain ⟨m,hm⟩:∃ m,b.u=m+1:=⟨b.u - 1,by omega⟩
 unfold Gf Tb.uqV
 rw [hu,hm]
 have:((List.range (m+1)).map fun i=>nI (b.uq i))[((i:Nat):Int).toNat]? = some (nI (b.uq i)):=by
  rw [show ((i:Nat):Int).toNat=i by omega,List.getElem?_map,List.getElem?_range (by omega)];rfl
 simp only [hs,true_and]
 rw [if_pos (by omega),this]
 rfl
theorem Aj8:E3 PG Of (b.lkV b.l)=some (nI b.l):=by
 have hu:PG.underlying Of=some (.slice Qk):=by kernel_rfl
 unfold E3 Tb.lkV
 rw [hu]
 cases b.l with
 | zero=>rfl
 | succ m =>
  show some (nI ((List.map _ (List.range (m+1))).length:Nat))=_
  simp
theorem Av3 {i:Nat} (hi:i < b.l):Gf PG Of (b.lkV b.l) (nI i)=some (.ref [nI (b.lc i), .str (b.ln i)]):=by
 have hu:PG.underlying Of=some (.slice Qk):=by kernel_rfl
 have hs:Dl PG Qk=some 2:=by kernel_rfl
 obtain ⟨m,hm⟩:∃ m,b.l=m+1:=⟨b.l - 1,by omega⟩
 unfold Gf Tb.lkV
 rw [hu,hm]
 have:((List.range (m+1)).map fun i=>PV.agg [nI (b.lc i), .str (b.ln i)])[((i:Nat):Int).toNat]? = some (.agg [nI (b.lc i), .str (b.ln i)]):=by
  rw [show ((i:Nat):Int).toNat=i by omega,List.getElem?_map,List.getElem?_range (by omega)];rfl
 simp only [hs,true_and]
 rw [if_pos (by omega),this]
 rfl
include hb
set_option maxRecDepth 40000 in
theorem Aq1 {S0:List UInt8} (hS:S0.length≤2000000):∀ (d i:Nat),i+d=b.u→By PG (Fq PG F9) (Du PG F9 14) (uqT (nI i) (.str (S0++b.uqsT i))) (b.cs b.k) (.exit 2) [(1, .box 0 0),(3, .str (S0++b.uqsT b.u))] (b.cs b.k):=by
 have hk:=hb.k
 have hu:=hb.u
 intro d
 induction d with
 | zero =>
  intro i hi
  obtain rfl:i=b.u:=by omega
  refine By.leave ?_ (fun h=>by cases h)
  have:=Ci.chk (nu:=Ab (b.rNu b.u b.u (S0++b.uqsT b.u) [] [] [] [] [] [] 0 (nI 0) (nI 0) [])) Af (Q4 b rfl rfl) (T:=uqT (.atom 24) (.atom 26)) (s:=Cm b.k) (T':=[(1, .box 0 0),(3, .atom 26)]) (s':=Cm b.k) Aa1 (List.all_eq_true.1 Ax0 b.k (by rw [List.mem_range];omega))
   ⟨⟨Aj7,rfl⟩,Av (a:=b.u) (b:=b.u) (c:=false) rfl rfl rfl (by simp only [Aq];rw [decide_eq_false (by omega)]) (by decide) rfl,trivial⟩ rfl (by unfold Tb.rNu;rw [L2,Gp b (by omega),Je];rfl) (by unfold Tb.rNu;rw [Gp b (by omega),Je];rfl)
  unfold Tb.rNu at this
  rw [Gp b (by omega)] at this
  exact this
 | succ d ih =>
  intro i hi
  have hl:=Ab4 hb i
  have e4:IntKind.i64.wrap ((i:Int)+1)=(i:Int)+1:=Dn (by omega) (by omega)
  have h:=ih (i+1) (by omega)
  have hx:=X7 hb (hb.uq i)
  obtain ⟨S,hSe⟩:∃ S,S=S0++b.uqsT i:=⟨_,rfl⟩
  have hSl:S.length≤2000100:=by rw [hSe,List.length_append];omega
  have eS:S0++b.uqsT (i+1)=S++b.uqT i:=by rw [hSe];simp [Tb.uqsT]
  rw [← hSe]
  rw [eS] at h
  have hn1:(kw ", unique (").length=10:=by decide
  have hn2:(kw ")").length=1:=by decide
  refine By.round ?_ h
  have hnu:Bc (Ab (b.rNu i b.u S (S++kw ", unique (") (S++kw ", unique (" ++ A5 (b.uq i)) [] [] (S++b.uqT i) (A5 (b.uq i)) (b.uq i) (nI (b.ty (b.uq i))) (.bool (b.nn (b.uq i))) [])):=Q4 b rfl rfl
  have hf:Ah PG (Ab (b.rNu i b.u S (S++kw ", unique (") (S++kw ", unique (" ++ A5 (b.uq i)) [] [] (S++b.uqT i) (A5 (b.uq i)) (b.uq i) (nI (b.ty (b.uq i))) (.bool (b.nn (b.uq i))) [])) crU:=by
   unfold crU
   have e:S++kw ", unique (" ++ A5 (b.uq i)++kw ")" = S++b.uqT i:=by simp [Tb.uqT]
   exact Ah.append ⟨⟨Aj7,rfl⟩,Av (a:=i) (b:=b.u) (c:=true) rfl rfl rfl (by simp only [Aq];rw [decide_eq_true (by omega)]) (by decide) rfl,trivial⟩ ⟨⟨Av6 (by omega),rfl⟩,⟨hx,rfl⟩,
    Ax (l:=S) (m:=kw ", unique (") rfl rfl (by omega) rfl rfl,Ax (l:=S++kw ", unique (") (m:=A5 (b.uq i)) rfl rfl (by rw [List.length_append,show (A5 (b.uq i)).length=1 from rfl];omega) rfl rfl,
    Ax (l:=S++kw ", unique (" ++ A5 (b.uq i)) (m:=kw ")") rfl rfl (by rw [List.length_append,List.length_append,show (A5 (b.uq i)).length=1 from rfl];omega) (by rw [e];rfl) rfl,Bm (a:=i) (b:=1) rfl rfl rfl (by simp only [Aq];rw [e4]) (by decide) rfl,trivial⟩
  have:=Ci.chk Af hnu (T:=uqT (.atom 24) (.atom 26)) (s:=Cm b.k) (T':=uqT (.atom 32) (.atom 31)) (s':=Cm b.k) Aa1 (List.all_eq_true.1 Aw0 b.k (by rw [List.mem_range];omega)) hf rfl (by unfold Tb.rNu;rw [L2,Gp b (by omega),Je];rfl) (by unfold Tb.rNu;rw [Gp b (by omega),Je];rfl)
  unfold Tb.rNu at this
  rw [Gp b (by omega)] at this
  exact this
set_option maxRecDepth 40000 in
theorem Arc {S0:List UInt8} (hS:S0.length≤3000000):∀ (d i:Nat),i+d=b.l→By PG (Fq PG F9) (Du PG F9 20) (lkT (nI i) (.str (S0++b.lksT i))) (b.cs b.k) (.exit 4) [(1, .box 0 0),(3, .str (S0++b.lksT b.l))] (b.cs b.k):=by
 have hk:=hb.k
 have hu:=hb.l
 intro d
 induction d with
 | zero =>
  intro i hi
  obtain rfl:i=b.l:=by omega
  refine By.leave ?_ (fun h=>by cases h)
  have:=Ci.chk (nu:=Ab (b.rNu b.l b.l (S0++b.lksT b.l) [] [] [] [] [] [] 0 (nI 0) (nI 0) [])) Af (Q4 b rfl rfl) (T:=lkT (.atom 24) (.atom 26)) (s:=Cm b.k) (T':=[(1, .box 0 0),(3, .atom 26)]) (s':=Cm b.k) Abg (List.all_eq_true.1 Aw8 b.k (by rw [List.mem_range];omega))
   ⟨⟨Aj8,rfl⟩,Av (a:=b.l) (b:=b.l) (c:=false) rfl rfl rfl (by simp only [Aq];rw [decide_eq_false (by omega)]) (by decide) rfl,trivial⟩ rfl (by unfold Tb.rNu;rw [L2,Gp b (by omega),Je];rfl) (by unfold Tb.rNu;rw [Gp b (by omega),Je];rfl)
  unfold Tb.rNu at this
  rw [Gp b (by omega)] at this
  exact this
 | succ d ih =>
  intro i hi
  have hl:=Abr hb i
  have hln:=Dv (hb.ln i)
  have e4:IntKind.i64.wrap ((i:Int)+1)=(i:Int)+1:=Dn (by omega) (by omega)
  have h:=ih (i+1) (by omega)
  have hx:=X7 hb (hb.lc i)
  obtain ⟨S,hSe⟩:∃ S,S=S0++b.lksT i:=⟨_,rfl⟩
  have hSl:S.length≤3000200:=by rw [hSe,List.length_append];omega
  have eS:S0++b.lksT (i+1)=S++b.lkT i:=by rw [hSe];simp [Tb.lksT]
  rw [← hSe]
  rw [eS] at h
  have hn1:(kw ", foreign key (").length=15:=by decide
  have hn2:(kw ") references ").length=13:=by decide
  refine By.round ?_ h
  have hnu:Bc (Ab (b.rNu i b.l S (S++kw ", foreign key (") (S++kw ", foreign key (" ++ A5 (b.lc i)) (S++kw ", foreign key (" ++ A5 (b.lc i)++kw ") references ") [] (S++b.lkT i) (A5 (b.lc i)) (b.lc i) (nI (b.ty (b.lc i))) (.bool (b.nn (b.lc i))) (b.ln i))):=Q4 b rfl rfl
  have hf:Ah PG (Ab (b.rNu i b.l S (S++kw ", foreign key (") (S++kw ", foreign key (" ++ A5 (b.lc i)) (S++kw ", foreign key (" ++ A5 (b.lc i)++kw ") references ") [] (S++b.lkT i) (A5 (b.lc i)) (b.lc i) (nI (b.ty (b.lc i))) (.bool (b.nn (b.lc i))) (b.ln i))) crK:=by
   unfold crK
   have e:S++kw ", foreign key (" ++ A5 (b.lc i)++kw ") references " ++ b.ln i=S++b.lkT i:=by simp [Tb.lkT]
   exact Ah.append ⟨⟨Aj8,rfl⟩,Av (a:=i) (b:=b.l) (c:=true) rfl rfl rfl (by simp only [Aq];rw [decide_eq_true (by omega)]) (by decide) rfl,trivial⟩ ⟨⟨Av3 (by omega),rfl⟩,⟨hx,rfl⟩,
    Ax (l:=S) (m:=kw ", foreign key (") rfl rfl (by omega) rfl rfl,Ax (l:=S++kw ", foreign key (") (m:=A5 (b.lc i)) rfl rfl (by rw [List.length_append,show (A5 (b.lc i)).length=1 from rfl];omega) rfl rfl,
    Ax (l:=S++kw ", foreign key (" ++ A5 (b.lc i)) (m:=kw ") references ") rfl rfl (by rw [List.length_append,List.length_append,show (A5 (b.lc i)).length=1 from rfl];omega) rfl rfl,
    Ax (l:=S++kw ", foreign key (" ++ A5 (b.lc i)++kw ") references ") (m:=b.ln i) rfl rfl (by rw [List.length_append,List.length_append,List.length_append,show (A5 (b.lc i)).length=1 from rfl];omega) (by rw [e];rfl) rfl,Bm (a:=i) (b:=1) rfl rfl rfl (by simp only [Aq];rw [e4]) (by decide) rfl,trivial⟩
  have:=Ci.chk Af hnu (T:=lkT (.atom 24) (.atom 26)) (s:=Cm b.k) (T':=lkT (.atom 32) (.atom 31)) (s':=Cm b.k) Abg (List.all_eq_true.1 Av8 b.k (by rw [List.mem_range];omega)) hf rfl (by unfold Tb.rNu;rw [L2,Gp b (by omega),Je];rfl) (by unfold Tb.rNu;rw [Gp b (by omega),Je];rfl)
  unfold Tb.rNu at this
  rw [Gp b (by omega)] at this
  exact this
end
open Go Go.RowKit
section
variable (b:Tb)
def Tb.hd:List UInt8:=kw "create table " ++ b.nm++kw " ("
def Tb.md:List UInt8:=b.hd++b.colsT b.k++kw "primary key (" ++ A5 b.key++kw ")"
def Tb.ckT:List UInt8:=match b.ck with|none=>[]|some e=>kw ", check (" ++ (e.txt++kw ")")
def Tb.crT:List UInt8:=b.md++b.uqsT b.u++b.ckT++b.lksT b.l++kw ")"
def Tb.mNu:List PV:=b.base++[nI 0,nI 0,nI 0,nI 0,nI 0,nI 0,nI 0,nI 0,nI 0, .str (A5 b.key),nI 0,nI (b.ty b.key), .bool (b.nn b.key),nI 0,nI 0, .str (kw "create table " ++ b.nm), .str b.hd, .str (b.hd++b.colsT b.k), .str (b.hd++b.colsT b.k++kw "primary key ("), .str (b.hd++b.colsT b.k++kw "primary key (" ++ A5 b.key), .str b.md,
 .str (b.md++b.uqsT b.u), .str (b.md++b.uqsT b.u++b.ckT), .str (b.md++b.uqsT b.u++b.ckT++b.lksT b.l), .str b.crT, .str (b.md++b.uqsT b.u++kw ", check ("), .str b.e.txt, .str (b.md++b.uqsT b.u++kw ", check (" ++ b.e.txt)]
theorem Aki:Bc (Ab b.mNu):=by
 refine Ap ?_
 unfold Tb.mNu
 rw [List.all_append,Agz]
 rfl
end
theorem Y3:∀ e:Xp,e.wf→∃ k:Int,e.e7.k=nI k∧k≠0
 | .lit _ _,_=>⟨1,rfl,by decide⟩
 | .col _,_=>⟨2,rfl,by decide⟩
 | .neg _,_=>⟨4,rfl,by decide⟩
 | .not _,_=>⟨3,rfl,by decide⟩
 | .isn _,_=>⟨5,rfl,by decide⟩
 | .op i a b,h=>by
  have:∀ i,i < 9→(Df.getD i (0, "")).1≠0:=by decide
  exact ⟨_,rfl,this i h.1⟩
theorem Ajd {b:Tb} (hb:b.Wf):b.ckT.length≤26000:=by
 unfold Tb.ckT
 cases h:b.ck with
 | none=>simp
 | some e =>
  have:=(hb.ck e h).len
  have h1:(kw ", check (").length=9:=by decide
  have h2:(kw ")").length=1:=by decide
  simp only [List.length_append,h1,h2]
  omega
set_option maxRecDepth 40000 in
theorem Aot {b : Tb} (hb : b.Wf) : Ev PG F9 [.agg b.val] (.str b.crT) := by
  have hk := hb.k
  have hnm := Dv hb.nm
  have l1 : (kw "create table ").length = 13 := by decide
  have l2 : (kw " (").length = 2 := by decide
  have l3 : (kw "primary key (").length = 13 := by decide
  have l4 : (kw ")").length = 1 := by decide
  have l5 : (kw ", check (").length = 9 := by decide
  have hhd : b.hd.length ≤ 100 := by unfold Tb.hd; rw [List.length_append, List.length_append, l1, l2]; omega
  have hcl := Abk hb b.k
  have hul := Ab4 hb b.u
  have hll := Abr hb b.l
  have hu := hb.u
  have hl := hb.l
  have hmd : b.md.length ≤ 300 := by
    unfold Tb.md
    simp only [List.length_append, l3, l4, show (A5 b.key).length = 1 from rfl]; omega
  have hck := Ajd hb
  have hx := X7 hb hb.key
  have hL1 := Ap5 hb (S0 := b.hd) (by omega) b.k 0 (by omega)
  have hL2 := Aq1 hb (S0 := b.md) (by omega) b.u 0 (by omega)
  have hL3 := Arc hb (S0 := b.md ++ b.uqsT b.u ++ b.ckT) (by simp only [List.length_append]; omega) b.l 0 (by omega)
  have e0 : b.colsT 0 = [] := rfl
  have e1 : b.uqsT 0 = [] := rfl
  have e2 : b.lksT 0 = [] := rfl
  rw [e0, List.append_nil] at hL1
  rw [e1, List.append_nil] at hL2
  rw [e2, List.append_nil] at hL3
  have hc0 : (Cm 0).map (Bz (Ab b.mNu)) = b.cs 0 := Gp b (by omega)
  have hck' : (Cm b.k).map (Bz (Ab b.mNu)) = b.cs b.k := Gp b (by omega)
  have hlen0 : (Cm 0).length ≤ (Cm b.k).length := by simp [Cm, Zg]
  have hA : Ah PG (Ab b.mNu) [sA (.str (kw "create table ")) (.atom 0) (.atom 39), sA (.atom 39) (.str (kw " (")) (.atom 40), .loop F9 5 (crT (nI 0) (.atom 40)) (Cm 0) (.exit 0) [(1, .box 0 0), (3, .atom 41)] (Cm b.k),
     sA (.atom 41) (.str (kw "primary key (")) (.atom 42), .op (.ix G9) [.atom 1, .atom 2] (.ref [.atom 33, .atom 35, .atom 36]), sA (.atom 42) (.atom 33) (.atom 43), sA (.atom 43) (.str (kw ")")) (.atom 44),
     .loop F9 14 (uqT (nI 0) (.atom 44)) (Cm b.k) (.exit 2) [(1, .box 0 0), (3, .atom 45)] (Cm b.k)] := by
    refine ⟨Ax (l := kw "create table ") (m := b.nm) rfl rfl (by omega) rfl rfl, Ax (l := kw "create table " ++ b.nm) (m := kw " (") rfl rfl (by rw [List.length_append]; omega) rfl rfl, ?_,
      Ax (l := b.hd ++ b.colsT b.k) (m := kw "primary key (") rfl rfl (by rw [List.length_append]; omega) rfl rfl, ⟨hx, rfl⟩, Ax (l := b.hd ++ b.colsT b.k ++ kw "primary key (") (m := A5 b.key) rfl rfl (by simp only [List.length_append, show (A5 b.key).length = 1 from rfl]; omega) rfl rfl,
      Ax (l := b.hd ++ b.colsT b.k ++ kw "primary key (" ++ A5 b.key) (m := kw ")") rfl rfl (by simp only [List.length_append, show (A5 b.key).length = 1 from rfl]; omega) rfl rfl, ?_, trivial⟩
    · refine Ho Abn hlen0 ?_ (by rw [L2]; rfl)
      rw [hc0, hck']
      exact hL1
    · refine Ho Aa1 (Nat.le_refl _) ?_ (by rw [L2]; rfl)
      rw [hck']
      exact hL2
  have hZ : ∀ c, Ab b.mNu c = .str (b.md ++ b.uqsT b.u ++ b.ckT) → Ah PG (Ab b.mNu) [.loop F9 20 (lkT (nI 0) (.atom c)) (Cm b.k) (.exit 4) [(1, .box 0 0), (3, .atom 47)] (Cm b.k), sA (.atom 47) (.str (kw ")")) (.atom 48)] := fun c hc => by
    refine ⟨?_, Ax (l := b.md ++ b.uqsT b.u ++ b.ckT ++ b.lksT b.l) (m := kw ")") rfl rfl (by simp only [List.length_append]; omega) rfl rfl, trivial⟩
    refine Ho Abg (Nat.le_refl _) ?_ (by rw [L2]; rfl)
    rw [hck']
    have : Fp (Ab b.mNu) (lkT (nI 0) (.atom c)) = lkT (nI 0) (.str (b.md ++ b.uqsT b.u ++ b.ckT)) := by
      show [(1, PV.box 0 0), (3, Ab b.mNu c), (9, nI 0)] = _
      rw [hc]; rfl
    rw [this]
    exact hL3
  have hT : subD (Ab b.mNu) (.agg Fb) = .agg b.val := rfl
  have hargs : ([PV.agg Fb].all fun p => E2 (Ab b.mNu) p && p.shut) = true := by
    have hp := Uh b
    show (((subD (Ab b.mNu) (.agg Fb)).pure && _) && _ && true) = true
    rw [hT]
    show ((PV.pureL b.val && true) && true && true) = true
    rw [hp]; rfl
  cases hc : b.ck with
  | none =>
    have hckT : b.ckT = [] := by unfold Tb.ckT; rw [hc]
    refine Ev.facts (args := [.agg Fb]) (r := .atom 48) Af (Aki b) (As (Bo (List.all_eq_true.1 Ak0 b.k (by rw [List.mem_range]; omega)) false)) ?_ hargs rfl
    unfold crF
    refine Ah.append (Ah.append hA ⟨?_, trivial⟩) (hZ 45 (by rw [hckT, List.append_nil]; rfl))
    have h4 : Ab b.mNu 4 = nI 0 := by show (wX b.ck).k = _; rw [hc]; rfl
    exact Av (a := 0) (b := 0) (c := false) h4 rfl rfl rfl (by decide) rfl
  | some e =>
    have he := hb.ck e hc
    have hel := he.len
    have hee : b.e = e := by unfold Tb.e; rw [hc]; rfl
    have hckT : b.ckT = kw ", check (" ++ (e.txt ++ kw ")") := by unfold Tb.ckT; rw [hc]
    have hpr := Jz e he.wf (by omega)
    obtain ⟨kk, hkk, hne⟩ := Y3 e he.wf
    refine Ev.facts (args := [.agg Fb]) (r := .atom 48) Af (Aki b) (As (Bo (List.all_eq_true.1 Ak0 b.k (by rw [List.mem_range]; omega)) true)) ?_ hargs rfl
    unfold crF
    refine Ah.append (Ah.append hA ⟨?_, Ax (l := b.md ++ b.uqsT b.u) (m := kw ", check (") rfl rfl (by simp only [List.length_append]; omega) rfl rfl, ?_, Ax (l := b.md ++ b.uqsT b.u ++ kw ", check (") (m := b.e.txt) rfl rfl (by rw [hee]; simp only [List.length_append]; omega) rfl rfl,
      Ax (l := b.md ++ b.uqsT b.u ++ kw ", check (" ++ b.e.txt) (m := kw ")") rfl rfl (by rw [hee]; simp only [List.length_append]; omega) ?_ rfl, trivial⟩) (hZ 46 rfl)
    · have h4 : Ab b.mNu 4 = nI kk := by show (wX b.ck).k = _; rw [hc]; exact hkk
      exact Av (a := kk) (b := 0) (c := true) h4 rfl rfl (by rw [N4]; simp [hne]) (by decide) rfl
    · refine Ai (a := [e.e7.pv]) (b := .str e.txt) hpr.rx ?_ (by show Ab b.mNu 50 = _; show PV.str b.e.txt = _; rw [hee]) rfl
      show [PV.agg (wX b.ck).L] = _
      rw [hc]; rfl
    · show PV.str (b.md ++ b.uqsT b.u ++ b.ckT) = _
      rw [hckT, hee]; simp
open Go Go.RowKit
theorem F2:∀ (a b:List Pc),B0 (a++b)=B0 a++B0 b
 | [],_=>rfl
 | p::a,b=>by simp only [List.cons_append,B0,F2 a b,List.append_assoc]
section
variable (b:Tb)
def Tb.pt (cs:List CI):List UInt8:=B0 (cs.flatMap ((b.env []).pcs b.t b.e))
theorem Q3 (x y:List CI):b.pt (x++y)=b.pt x++b.pt y:=by unfold Tb.pt;rw [List.flatMap_append,F2]
theorem E5 (c:CI) (y:List CI):b.pt (c::y)=B0 ((b.env []).pcs b.t b.e c)++b.pt y:=by unfold Tb.pt;rw [List.flatMap_cons,F2]
theorem Ac6:b.pt []=[]:=rfl
def Tb.colsF:Nat→Nat→List UInt8
 | 0,_=>[]
 | n+1,i=>b.colT i++Tb.colsF n (i+1)
theorem Ahz:∀ (n i:Nat),b.colsT i++b.colsF n i=b.colsT (i+n)
 | 0,i=>by simp [Tb.colsF]
 | n+1,i=>by
  have ih:=Ahz n (i+1)
  simp only [Tb.colsF]
  rw [← List.append_assoc,show b.colsT i++b.colT i=b.colsT (i+1) from rfl,ih,show i+1+n=i+(n+1) by omega]
def Tb.uqsF:Nat→Nat→List UInt8
 | 0,_=>[]
 | n+1,i=>b.uqT i++Tb.uqsF n (i+1)
theorem Ajc:∀ (n i:Nat),b.uqsT i++b.uqsF n i=b.uqsT (i+n)
 | 0,i=>by simp [Tb.uqsF]
 | n+1,i=>by
  have ih:=Ajc n (i+1)
  simp only [Tb.uqsF]
  rw [← List.append_assoc,show b.uqsT i++b.uqT i=b.uqsT (i+1) from rfl,ih,show i+1+n=i+(n+1) by omega]
def Tb.lksF:Nat→Nat→List UInt8
 | 0,_=>[]
 | n+1,i=>b.lkT i++Tb.lksF n (i+1)
theorem Ai3:∀ (n i:Nat),b.lksT i++b.lksF n i=b.lksT (i+n)
 | 0,i=>by simp [Tb.lksF]
 | n+1,i=>by
  have ih:=Ai3 n (i+1)
  simp only [Tb.lksF]
  rw [← List.append_assoc,show b.lksT i++b.lkT i=b.lksT (i+1) from rfl,ih,show i+1+n=i+(n+1) by omega]
theorem Aup (i:Nat) (X:List UInt8):B0 ((b.env []).pcs b.t b.e (.col i))++([44]++([32]++X))=sp (!Nat.beq i 0)++(b.colT i++X):=by
 have h1:kw " not null" = [32]++(kw "not" ++ ([32]++kw "null")):=by decide
 have h2:kw ", " = [44,32]:=by decide
 show B0 (L0 (!Nat.beq i 0) (A5 i) (b.t i) (b.nn i))++_=_
 unfold L0 Y4 Tb.colT
 cases b.nn i with
 | true =>
  simp only [B0,List.cons_append,List.nil_append,It.txt,sp,h1,h2,List.append_assoc,List.append_nil]
 | false =>
  simp only [B0,List.cons_append,List.nil_append,It.txt,sp,h2,List.append_assoc,List.append_nil]
theorem Ajq:∀ (n i:Nat) (X:List UInt8),b.pt (Rq n i)++([32]++X)=(match n with|0=>[32]|_=>sp (!Nat.beq i 0))++(b.colsF n i++X)
 | 0,_,X=>rfl
 | n+1,i,X=>by
  have ih:=Ajq n (i+1) X
  have hm:(match n with|0=>[32]|_=>sp (!Nat.beq (i+1) 0))=[32]:=by cases n<;>rfl
  rw [hm] at ih
  show b.pt (.col i::Gj 4::Rq n (i+1))++_=sp (!Nat.beq i 0)++(b.colT i++b.colsF n (i+1)++X)
  rw [E5,E5,List.append_assoc,List.append_assoc,ih]
  have:=Aup b i (b.colsF n (i+1)++X)
  rw [List.append_assoc,← this]
  rfl
theorem Aj0 (k:Nat):∀ (n m:Nat),m+n≤2→b.pt (Tc k n m)=b.uqsF n m
 | 0,_,_=>rfl
 | n+1,m,h=>by
  have ih:=Aj0 k n (m+1) (by omega)
  show b.pt (Gj 4::Em "unique" :: .ow _ (10+m)::Tc k n (m+1))=b.uqT m++b.uqsF n (m+1)
  rw [E5,E5,E5,ih]
  have h1:kw ", unique (" = [44]++([32]++(kw "unique" ++ ([32]++[40]))):=by decide
  have h2:kw ")" = [41]:=by decide
  have hR:b.R (10+m)=b.uq m:=by
   have:m=0∨m=1:=by omega
   rcases this with rfl|rfl<;>rfl
  unfold Tb.uqT
  rw [h1,h2,← hR]
  show ([44]++[])++(([32]++(kw "unique" ++ []))++(([32]++([40]++([]++(A5 (b.R (10+m))++([]++([41]++[]))))))++b.uqsF n (m+1)))=_
  simp
theorem Aj6 (k u:Nat) (ck:Bool):∀ (n m:Nat),m+n≤2→b.pt (R1 k u ck n m)=b.lksF n m
 | 0,_,_=>rfl
 | n+1,m,h=>by
  have ih:=Aj6 k u ck n (m+1) (by omega)
  show b.pt (Gj 4::Em "foreign" :: Em "key" :: .ow _ (12+m)::Em "references" :: .tk (.nm (5+m))::R1 k u ck n (m+1))=b.lkT m++b.lksF n (m+1)
  rw [E5,E5,E5,E5,E5,E5,ih]
  have h1:kw ", foreign key (" = [44]++([32]++(kw "foreign" ++ ([32]++(kw "key" ++ ([32]++[40]))))):=by decide
  have h2:kw ") references " = [41]++([32]++(kw "references" ++ [32])):=by decide
  have hR:b.R (12+m)=b.lc m:=by
   have:m=0∨m=1:=by omega
   rcases this with rfl|rfl<;>rfl
  have hN:(b.env []).N (5+m)=b.ln m:=by
   have:m=0∨m=1:=by omega
   rcases this with rfl|rfl<;>rfl
  unfold Tb.lkT
  rw [h1,h2,← hR,← hN]
  show ([44]++[])++(([32]++(kw "foreign" ++ []))++(([32]++(kw "key" ++ []))++(([32]++([40]++([]++(A5 (b.R (12+m))++([]++([41]++[]))))))++(([32]++(kw "references" ++ []))++(([32]++((b.env []).N (5+m)++[]))++b.lksF n (m+1))))))=_
  simp
theorem Awk:b.pt (ckI b.ck.isSome)=b.ckT:=by
 unfold Tb.ckT
 cases h:b.ck with
 | none=>rfl
 | some e =>
  have h1:kw ", check (" = [44]++([32]++(kw "check" ++ ([32]++[40]))):=by decide
  have h2:kw ")" = [41]:=by decide
  have he:b.e=e:=by unfold Tb.e;rw [h];rfl
  show b.pt [Gj 4,Em "check", Gj 2, .ex,Gj 3]=_
  rw [E5,E5,E5,E5,E5,Ac6,h1,h2,← he]
  show ([44]++[])++(([32]++(kw "check" ++ []))++(([32]++([40]++[]))++(([]++(b.e.txt++[]))++(([]++([41]++[]))++[]))))=_
  simp
end
theorem Ye {b:Tb} (hb:b.Wf):B0 b.pcs=b.crT:=by
 have h0:=hb.k
 have hu:=hb.u
 have hl:=hb.l
 show b.pt (J3 b.k b.u b.ck.isSome b.l)=_
 unfold J3
 rw [Q3,Q3,Q3,Q3,Q3,Q3,Aj0 b _ _ _ (by omega),Aj6 b _ _ _ _ _ (by omega),Awk]
 have e1:b.pt [Em "create", Em "table", .tk (.nm 2),Gj 2]=kw "create table " ++ b.nm++kw " (" := by
  have h1:kw "create table " = kw "create" ++ ([32]++(kw "table" ++ [32])):=by decide
  have h2:kw " (" = [32]++[40]:=by decide
  rw [E5,E5,E5,E5,Ac6,h1,h2]
  show ([]++(kw "create" ++ []))++(([32]++(kw "table" ++ []))++(([32]++(b.nm++[]))++(([32]++([40]++[]))++[])))=_
  simp
 have e2:∀ X,b.pt [Em "primary", Em "key", .ow (J4 b.k (nI 0) .nilslice E7.zero.L .nilslice) 3]++X=[32]++(kw "primary key (" ++ A5 b.key++kw ")" ++ X):=fun X=>by
  have h1:kw "primary key (" = kw "primary" ++ ([32]++(kw "key" ++ ([32]++[40]))):=by decide
  have h2:kw ")" = [41]:=by decide
  rw [E5,E5,E5,Ac6,h1,h2]
  show (([32]++(kw "primary" ++ []))++(([32]++(kw "key" ++ []))++(([32]++([40]++([]++(A5 b.key++([]++([41]++[]))))))++[])))++X=_
  simp
 have e3:b.pt [Gj 3]=kw ")" := by
  have h2:kw ")" = [41]:=by decide
  rw [h2];rfl
 rw [e1,e2,Ajq,e3]
 have hm:(match b.k with|0=>[32]|_=>sp (!Nat.beq 0 0))=[]:=by
  obtain ⟨m,hm⟩:∃ m,b.k=m+1:=⟨b.k - 1,by omega⟩
  rw [hm];rfl
 rw [hm]
 have c1:=Ahz b b.k 0
 have c2:=Ajc b b.u 0
 have c3:=Ai3 b b.l 0
 rw [show b.colsT 0=[] from rfl,List.nil_append,Nat.zero_add] at c1
 rw [show b.uqsT 0=[] from rfl,List.nil_append,Nat.zero_add] at c2
 rw [show b.lksT 0=[] from rfl,List.nil_append,Nat.zero_add] at c3
 rw [c1,c2,c3]
 unfold Tb.crT Tb.md Tb.hd
 simp
open Go Go.RowKit
noncomputable abbrev Si (fs:List Ao) (a r:PV):Bool:=A0 r (Am PG (Aj An fs) 20 Ll [a] [])
theorem Aty:Si [.prim F9 [.agg Fb] (.atom 12)] (Cf (nI 1) Fb (.str []) (.str []) (.str []) .nilslice E7.zero.L E7.zero.L) (.atom 12)=true:=by kernel_rfl
theorem Ar0:Si [sA (.str (kw "drop table ")) (.atom 2) (.atom 10)] (Cf (nI 2) Bh (.atom 2) (.str []) (.str []) .nilslice E7.zero.L E7.zero.L) (.atom 10)=true:=by kernel_rfl
theorem Aqs:Si [sA (.str (kw "alter table ")) (.atom 2) (.atom 10),sA (.atom 10) (.str (kw " add foreign key (")) (.atom 11),sA (.atom 11) (.atom 3) (.atom 12),sA (.atom 12) (.str (kw ") references ")) (.atom 13),sA (.atom 13) (.atom 4) (.atom 14)] (Cf (nI 3) Bh (.atom 2) (.atom 3) (.atom 4) .nilslice E7.zero.L E7.zero.L) (.atom 14)=true:=by kernel_rfl
def twF (b:Bool):List Ao:=match b with|true=>[oI .neq (.atom 70) (nI 0) (.bool true), .prim Hw [eA 70] (.atom 21),sA (.str (kw " where ")) (.atom 21) (.atom 22)]|false=>[]
def Zk (b:Bool):PV:=match b with|true=>.atom 22|false=>.str []
theorem Ats:bl (fun b=>Si (twF b++[sA (.str (kw "update ")) (.atom 2) (.atom 10),sA (.atom 10) (.str (kw " set ")) (.atom 11),sA (.atom 11) (.atom 3) (.atom 12),sA (.atom 12) (.str (kw " = ")) (.atom 13), .prim Hw [eA 60] (.atom 20),sA (.atom 13) (.atom 20) (.atom 14),sA (.atom 14) (Zk b) (.atom 15)]) (Cf (nI 5) Bh (.atom 2) (.atom 3) (.str []) .nilslice (G7 60) (wE b)) (.atom 15))=true:=by kernel_rfl
def E4 (k:Nat):String:=match k with|0 => "delete from " | 1 => "select * from " | _ => "select count(*) from "
theorem Awf:((List.range 3).all fun k=>bl (fun b=>Si (twF b++[sA (.str (kw (E4 k))) (.atom 2) (.atom 10),sA (.atom 10) (Zk b) (.atom 11)]) (Cf (nI (6+k:Nat)) Bh (.atom 2) (.str []) (.str []) .nilslice E7.zero.L (wE b)) (.atom 11)))=true:=by kernel_rfl
def tiF (n:Nat):List Ao:=[sA (.str (kw "insert into ")) (.atom 2) (.atom 10),sA (.atom 10) (.str (kw " values (")) (.atom 11),sA (.atom (50+(n - 1))) (.str (kw ")")) (.atom 70),sA (.atom 11) (.atom 40) (.atom 50)] ++
 ((List.range n).map (fun i=>.prim Eg [M3 (160+4*i)] (.atom (40+i)))++(List.range (n - 1)).flatMap (fun i=>[sA (.atom (50+i)) (.str (kw ", ")) (.atom (60+i)),sA (.atom (60+i)) (.atom (41+i)) (.atom (51+i))]))
theorem As7:((List.range 5).all fun n=>Si (tiF (n+1)) (Cf (nI 4) Bh (.atom 2) (.str []) (.str []) (.slice 4 ((List.range (n+1)).map fun m=>M3 (160+4*m))) E7.zero.L E7.zero.L) (.atom 70))=true:=by kernel_rfl
def Il (nm col dst:List UInt8) (a b c d e f:List UInt8) (te tw:List UInt8) (x w:E7):List PV :=
 [.str [],nI 0, .str nm, .str col, .str dst,nI 0,nI 0,nI 0,nI 0,nI 0, .str a, .str b, .str c, .str d, .str e, .str f,nI 0,nI 0,nI 0,nI 0, .str te, .str tw, .str (kw " where " ++ tw)]++(List.replicate 37 (nI 0)++(x.L++([nI 0,nI 0,nI 0]++w.L)))
theorem Ns {nm col dst a b c d e f te tw:List UInt8} {x w:E7} (hx:x.ok=true) (hw:w.ok=true):Bc (Ab (Il nm col dst a b c d e f te tw x w)):=by
 refine Ap ?_
 unfold Il
 rw [List.all_append,List.all_append,List.all_append,List.all_append,show (x.L.all fun p=>p.clean&&p.pure)=true from hx,show (w.L.all fun p=>p.clean&&p.pure)=true from hw]
 rfl
def Dq (w:Option Xp):List UInt8:=match w with|none=>[]|some e=>kw " where " ++ e.txt
def Oc (w:Option Xp):List UInt8:=match w with|some e=>e.txt|none=>[]
theorem Ht (w:Option Xp):B0 (D3 w)=Dq w:=by
 cases w with
 | none=>rfl
 | some e =>
  have h:kw " where " = [32]++(kw "where" ++ [32]):=by decide
  show [32]++(kw "where" ++ ([32]++(e.txt++[])))=kw " where " ++ e.txt
  rw [h];simp
theorem Jf {w:Option Xp} (h:Gx w):(Dq w).length≤25700:=by
 cases w with
 | none=>simp [Dq]
 | some e =>
  have:=(h e rfl).len
  have h1:(kw " where ").length=7:=by decide
  simp only [Dq,List.length_append,h1]
  omega
theorem Oz {k:Int} {T:List PV} {nm col dst:List UInt8} {row:PV} {e w:E7} {nu:Nat→PV} {p:PV} (h:subD nu p=Cb k T nm col dst row e w) (hc:(Cb k T nm col dst row e w).pure=true) (ho:C9 nu p=true) (hs:p.shut=true):([p].all fun p=>E2 nu p&&p.shut)=true:=by
 simp only [List.all_cons,E2,h,hc,ho,hs];rfl
theorem Ald {w:Option Xp} (hw:Gx w) {nm col dst a b c d e f te:List UInt8} {x:E7}:Ah PG (Ab (Il nm col dst a b c d e f te (Oc w) x (wX w))) (twF w.isSome):=by
 cases w with
 | none=>trivial
 | some g =>
  have hg:=hw g rfl
  have hl:=hg.len
  have hpr:=Jz g hg.wf (by omega)
  obtain ⟨kk,hkk,hne⟩:=Y3 g hg.wf
  have h1:(kw " where ").length=7:=by decide
  exact ⟨Av (a:=kk) (b:=0) (c:=true) hkk rfl rfl (by rw [N4];simp [hne]) (by decide) rfl,Ai hpr.rx rfl rfl rfl,Ax (l:=kw " where ") (m:=g.txt) rfl rfl (by omega) rfl rfl,trivial⟩
theorem Acv {nm:List UInt8} (hn:Ea nm) {w:Option Xp} (hw:Gx w) {k:Nat} (hk:k < 3):Ev PG Ll [Cb (6+k:Nat) Bh nm [] [] .nilslice E7.zero (wX w)] (.str (kw (E4 k)++nm++Dq w)):=by
 have hl:=Jf hw
 have hnl:=Dv hn
 have hkl:(kw (E4 k)).length≤30:=by
  have:k=0∨k=1∨k=2:=by omega
  rcases this with rfl|rfl|rfl<;>decide
 have hp:=Nq (k:=(6+k:Nat)) (nm:=nm) (col:=[]) (dst:=[]) (e:=E7.zero) rfl (D9 w)
 have hT:subD (Ab (Il nm [] [] (kw (E4 k)++nm) (kw (E4 k)++nm++Dq w) [] [] [] [] [] (Oc w) E7.zero (wX w))) (Cf (nI (6+k:Nat)) Bh (.atom 2) (.str []) (.str []) .nilslice E7.zero.L (wE w.isSome))=Cb (6+k:Nat) Bh nm [] [] .nilslice E7.zero (wX w):=by
  cases w<;>rfl
 have:=Ev.facts (nu:=Ab (Il nm [] [] (kw (E4 k)++nm) (kw (E4 k)++nm++Dq w) [] [] [] [] [] (Oc w) E7.zero (wX w))) (args:=[Cf (nI (6+k:Nat)) Bh (.atom 2) (.str []) (.str []) .nilslice E7.zero.L (wE w.isSome)]) (r:=.atom 11) Af (Ns rfl (D9 w)) (As (Bo (List.all_eq_true.1 Awf k (by rw [List.mem_range];exact hk)) w.isSome))
  (Ah.append (Ald hw) ⟨Ax (l:=kw (E4 k)) (m:=nm) rfl rfl (by omega) rfl rfl,Ax (l:=kw (E4 k)++nm) (m:=Dq w) rfl (by cases w<;>rfl) (by rw [List.length_append];omega) rfl rfl,trivial⟩)
  (Oz hT hp (by cases w<;>rfl) (by cases w<;>rfl)) rfl
 simp only [List.map_cons,List.map_nil,hT] at this
 exact this
theorem Arr {nm col:List UInt8} (hn:Ea nm) (hc:Ea col) {e:Xp} (he:J5 e) {w:Option Xp} (hw:Gx w):Ev PG Ll [Cb 5 Bh nm col [] .nilslice e.e7 (wX w)] (.str (kw "update " ++ nm++kw " set " ++ col++kw " = " ++ e.txt++Dq w)):=by
 have hl:=Jf hw
 have hnl:=Dv hn
 have hcl:=Dv hc
 have hel:=he.len
 have hpr:=Jz e he.wf (by omega)
 have k1:(kw "update ").length=7:=by decide
 have k2:(kw " set ").length=5:=by decide
 have k3:(kw " = ").length=3:=by decide
 have hp:=Nq (k:=5) (nm:=nm) (col:=col) (dst:=[]) (e:=e.e7) (Bg e) (D9 w)
 have hT:subD (Ab (Il nm col [] (kw "update " ++ nm) (kw "update " ++ nm++kw " set ") (kw "update " ++ nm++kw " set " ++ col) (kw "update " ++ nm++kw " set " ++ col++kw " = ") (kw "update " ++ nm++kw " set " ++ col++kw " = " ++ e.txt) (kw "update " ++ nm++kw " set " ++ col++kw " = " ++ e.txt++Dq w) e.txt (Oc w) e.e7 (wX w))) (Cf (nI 5) Bh (.atom 2) (.atom 3) (.str []) .nilslice (G7 60) (wE w.isSome))=Cb 5 Bh nm col [] .nilslice e.e7 (wX w):=by
  cases w<;>rfl
 have:=Ev.facts (args:=[Cf (nI 5) Bh (.atom 2) (.atom 3) (.str []) .nilslice (G7 60) (wE w.isSome)]) (r:=.atom 15) Af (Ns (Bg e) (D9 w)) (As (Bo Ats w.isSome))
  (Ah.append (Ald hw) ⟨Ax (l:=kw "update ") (m:=nm) rfl rfl (by omega) rfl rfl,Ax (l:=kw "update " ++ nm) (m:=kw " set ") rfl rfl (by simp only [List.length_append];omega) rfl rfl,Ax (l:=kw "update " ++ nm++kw " set ") (m:=col) rfl rfl (by simp only [List.length_append];omega) rfl rfl,
   Ax (l:=kw "update " ++ nm++kw " set " ++ col) (m:=kw " = ") rfl rfl (by simp only [List.length_append];omega) rfl rfl,Ai hpr.rx rfl rfl rfl,Ax (l:=kw "update " ++ nm++kw " set " ++ col++kw " = ") (m:=e.txt) rfl rfl (by simp only [List.length_append];omega) rfl rfl,
   Ax (l:=kw "update " ++ nm++kw " set " ++ col++kw " = " ++ e.txt) (m:=Dq w) rfl (by cases w<;>rfl) (by simp only [List.length_append];omega) rfl rfl,trivial⟩)
  (Oz hT hp (by cases w<;>rfl) (by cases w<;>rfl)) rfl
 simp only [List.map_cons,List.map_nil,hT] at this
 exact this
open Go Go.RowKit
theorem Ap0 {nm:List UInt8} (hn:Ea nm):Ev PG Ll [Cb 2 Bh nm [] [] .nilslice E7.zero E7.zero] (.str (kw "drop table " ++ nm)):=by
 have hnl:=Dv hn
 have k1:(kw "drop table ").length=11:=by decide
 exact Ev.facts (nu:=Ab (Il nm [] [] (kw "drop table " ++ nm) [] [] [] [] [] [] [] E7.zero E7.zero)) (args:=[Cf (nI 2) Bh (.atom 2) (.str []) (.str []) .nilslice E7.zero.L E7.zero.L]) (r:=.atom 10) Af (Ns rfl rfl) (As Ar0)
  ⟨Ax (l:=kw "drop table ") (m:=nm) rfl rfl (by omega) rfl rfl,trivial⟩ rfl rfl
theorem Ao4 {nm col dst:List UInt8} (hn:Ea nm) (hc:Ea col) (hd:Ea dst):Ev PG Ll [Cb 3 Bh nm col dst .nilslice E7.zero E7.zero] (.str (kw "alter table " ++ nm++kw " add foreign key (" ++ col++kw ") references " ++ dst)):=by
 have h1:=Dv hn
 have h2:=Dv hc
 have h3:=Dv hd
 have k1:(kw "alter table ").length=12:=by decide
 have k2:(kw " add foreign key (").length=18:=by decide
 have k3:(kw ") references ").length=13:=by decide
 exact Ev.facts (nu:=Ab (Il nm col dst (kw "alter table " ++ nm) (kw "alter table " ++ nm++kw " add foreign key (") (kw "alter table " ++ nm++kw " add foreign key (" ++ col) (kw "alter table " ++ nm++kw " add foreign key (" ++ col++kw ") references ") (kw "alter table " ++ nm++kw " add foreign key (" ++ col++kw ") references " ++ dst) [] [] [] E7.zero E7.zero))
  (args:=[Cf (nI 3) Bh (.atom 2) (.atom 3) (.atom 4) .nilslice E7.zero.L E7.zero.L]) (r:=.atom 14) Af (Ns rfl rfl) (As Aqs)
  ⟨Ax (l:=kw "alter table ") (m:=nm) rfl rfl (by omega) rfl rfl,Ax (l:=kw "alter table " ++ nm) (m:=kw " add foreign key (") rfl rfl (by simp only [List.length_append];omega) rfl rfl,Ax (l:=kw "alter table " ++ nm++kw " add foreign key (") (m:=col) rfl rfl (by simp only [List.length_append];omega) rfl rfl,
   Ax (l:=kw "alter table " ++ nm++kw " add foreign key (" ++ col) (m:=kw ") references ") rfl rfl (by simp only [List.length_append];omega) rfl rfl,Ax (l:=kw "alter table " ++ nm++kw " add foreign key (" ++ col++kw ") references ") (m:=dst) rfl rfl (by simp only [List.length_append];omega) rfl rfl,trivial⟩ rfl rfl
def Ei:List (V4 × List UInt8)→List UInt8
 | []=>[]
 | [v]=>v.2
 | v::w::vs=>v.2++(kw ", " ++ Ei (w::vs))
theorem Xe:∀ (vs:List (V4 × List UInt8)) (b:Bool),vs≠[]→B0 (Gt b vs)=sp b++Ei vs
 | [],_,h=>absurd rfl h
 | [v],b,_=>by simp [Gt,B0,Ei,It.txt]
 | v::w::vs,b,_=>by
  have ih:=Xe (w::vs) true (by simp)
  have h:kw ", " = [44]++[32]:=by decide
  simp only [Gt,B0,Ei,ih,h]
  show sp b++(v.2++([]++([44]++([32]++Ei (w::vs)))))=_
  simp
def G0 (S:List UInt8) (vs:List (V4 × List UInt8)):Nat→List UInt8
 | 0=>S++(vs.getD 0 (v0,[])).2
 | i+1=>G0 S vs i++kw ", " ++ (vs.getD (i+1) (v0,[])).2
theorem Ajg (S:List UInt8):∀ (vs:List (V4 × List UInt8)) (n:Nat),vs.length=n+1→G0 S vs n=S++Ei vs
 | [],_,h=>by simp at h
 | [v],n,h=>by
  obtain rfl:n=0:=by simpa using h.symm
  rfl
 | v::w::vs,n,h=>by
  obtain ⟨m,rfl⟩:∃ m,n=m+1:=⟨n - 1,by simp at h;omega⟩
  have ih:=Ajg (S++v.2++kw ", ") (w::vs) m (by simpa using h)
  have hs:∀ i,G0 S (v::w::vs) (i+1)=G0 (S++v.2++kw ", ") (w::vs) i:=fun i=>by
   induction i with
   | zero=>simp [G0]
   | succ i ihh =>
    show G0 S (v::w::vs) (i+1)++kw ", " ++ _=G0 (S++v.2++kw ", ") (w::vs) i++kw ", " ++ _
    rw [ihh]
    rfl
  rw [hs,ih]
  simp [Ei]
theorem Aip (S:List UInt8) (vs:List (V4 × List UInt8)) (h:∀ v∈vs,v.2.length≤200):∀ i,(G0 S vs i).length≤S.length+202*(i+1)
 | 0=>by
  have:(vs.getD 0 (v0,[])).2.length≤200:=by
   rw [List.getD_eq_getElem?_getD]
   cases hq:vs[0]? with
   | none=>simp
   | some v=>exact h v (List.mem_of_getElem? hq)
  simp only [G0,List.length_append]
  omega
 | i+1=>by
  have ih:=Aip S vs h i
  have:(vs.getD (i+1) (v0,[])).2.length≤200:=by
   rw [List.getD_eq_getElem?_getD]
   cases hq:vs[i+1]? with
   | none=>simp
   | some v=>exact h v (List.mem_of_getElem? hq)
  have hk:(kw ", ").length=2:=by decide
  simp only [G0,List.length_append,hk]
  omega
def Alv (nm:List UInt8) (S:List UInt8) (L A B:Nat→List UInt8) (Z:List UInt8) (V:Nat→V4):List PV :=
 [.str [],nI 0, .str nm,nI 0,nI 0,nI 0,nI 0,nI 0,nI 0,nI 0, .str (kw "insert into " ++ nm), .str S]++(List.replicate 28 (nI 0)++([.str (L 0), .str (L 1), .str (L 2), .str (L 3), .str (L 4),nI 0,nI 0,nI 0,nI 0,nI 0, .str (A 0), .str (A 1), .str (A 2), .str (A 3), .str (A 4),nI 0,nI 0,nI 0,nI 0,nI 0,
  .str (B 0), .str (B 1), .str (B 2), .str (B 3),nI 0,nI 0,nI 0,nI 0,nI 0,nI 0, .str Z]++(List.replicate 89 (nI 0)++(Dj (V 0)++(Dj (V 1)++(Dj (V 2)++(Dj (V 3)++Dj (V 4))))))))
set_option maxRecDepth 40000 in
set_option maxHeartbeats 4000000 in
theorem Aqi {nm:List UInt8} (hn:Ea nm) {vs:List (V4 × List UInt8)} (h0:vs≠[]) (h5:vs.length≤5) (hv:∀ v∈vs,Ie v.1 v.2∧Hk v.2):Ev PG Ll [Cb 4 Bh nm [] [] (rowP vs) E7.zero E7.zero] (.str (kw "insert into " ++ nm++kw " values (" ++ Ei vs++kw ")")):=by
 have h1:=Dv hn
 have k1:(kw "insert into ").length=12:=by decide
 have k2:(kw " values (").length=9:=by decide
 have k3:(kw ")").length=1:=by decide
 have k4:(kw ", ").length=2:=by decide
 have hl:1≤vs.length:=by cases vs with|nil=>exact absurd rfl h0|cons a l=>simp
 obtain ⟨n,hn5,hlen⟩:∃ n,n < 5∧vs.length=n+1:=⟨vs.length - 1,by omega,by omega⟩
 obtain ⟨S,hS⟩:∃ S,S=kw "insert into " ++ nm++kw " values (" := ⟨_,rfl⟩
 have hSl:S.length≤50:=by rw [hS];simp only [List.length_append];omega
 have hlv:∀ v∈vs,v.2.length≤200:=fun v h=>(hv v h).1.len
 have hal:=Aip S vs hlv
 have hget:∀ i,i < n+1→Ie (vs.getD i (v0,[])).1 (vs.getD i (v0,[])).2:=fun i hi=>by
  have:vs[i]? = some (vs.getD i (v0,[])):=by rw [List.getD_eq_getElem?_getD,List.getElem?_eq_getElem (by omega)];rfl
  exact (hv _ (List.mem_of_getElem? this)).1
 rw [← hS,← Ajg S vs n hlen]
 have hk:=As (List.all_eq_true.1 As7 n (by rw [List.mem_range];exact hn5))
 have hnu:Bc (Ab (Alv nm S (fun i=>(vs.getD i (v0,[])).2) (G0 S vs) (fun i=>G0 S vs i++kw ", ") (G0 S vs n++kw ")") (fun i=>(vs.getD i (v0,[])).1))):=Ap rfl
 have hf:Ah PG (Ab (Alv nm S (fun i=>(vs.getD i (v0,[])).2) (G0 S vs) (fun i=>G0 S vs i++kw ", ") (G0 S vs n++kw ")") (fun i=>(vs.getD i (v0,[])).1))) (tiF (n+1)):=by
  unfold tiF
  have hn':n=0∨n=1∨n=2∨n=3∨n=4:=by omega
  have hl0:(vs.getD 0 (v0,[])).2.length≤200:=(hget 0 (by omega)).len
  refine Ah.append ⟨Ax (l:=kw "insert into ") (m:=nm) rfl rfl (by omega) rfl rfl,Ax (l:=kw "insert into " ++ nm) (m:=kw " values (") rfl rfl (by rw [List.length_append];omega) (by rw [← hS];rfl) rfl,?_,Ax (l:=S) (m:=(vs.getD 0 (v0,[])).2) rfl rfl (by omega) rfl rfl,trivial⟩ (Ah.append (Ah.of ?_) (Ah.of ?_))
  ·have:=hal n
   rcases hn' with rfl|rfl|rfl|rfl|rfl<;>exact Ax (l:=G0 S vs _) (m:=kw ")") rfl rfl (by omega) rfl rfl
  ·intro f hf
   obtain ⟨i,hi,rfl⟩:=List.mem_map.1 hf
   rw [List.mem_range] at hi
   have hL:=(hget i hi).two
   have hi5:i=0∨i=1∨i=2∨i=3∨i=4:=by omega
   rcases hi5 with rfl|rfl|rfl|rfl|rfl<;>exact Ai hL rfl rfl rfl
  ·intro f hf
   obtain ⟨i,hi,hf⟩:=List.mem_flatMap.1 hf
   rw [List.mem_range] at hi
   have hL:=(hget (i+1) (by omega)).len
   have:=hal i
   have hi4:i=0∨i=1∨i=2∨i=3:=by omega
   simp only [List.mem_cons,List.not_mem_nil,or_false] at hf
   rcases hf with rfl|rfl
   ·rcases hi4 with rfl|rfl|rfl|rfl<;>exact Ax (l:=G0 S vs _) (m:=kw ", ") rfl rfl (by omega) rfl rfl
   ·rcases hi4 with rfl|rfl|rfl|rfl<;>exact Ax (l:=G0 S vs _++kw ", ") (m:=(vs.getD _ (v0,[])).2) rfl rfl (by rw [List.length_append];simp only [Nat.reduceAdd] at hL;omega) rfl rfl
 have hrow:rowP vs = .slice 4 ((List.range (n+1)).map fun m=>Den.vP (vs.getD m (v0,[])).1):=by
  unfold rowP
  congr 1
  refine List.ext_getElem? fun m=>?_
  rw [List.getElem?_map,List.getElem?_map]
  by_cases hm:m < n+1
  ·rw [List.getElem?_eq_getElem (by omega),List.getElem?_range hm]
   simp [List.getElem?_eq_getElem (show m < vs.length by omega)]
  ·rw [List.getElem?_eq_none (by omega),List.getElem?_eq_none (by simp;omega)]
   rfl
 rw [hrow]
 have hn':n=0∨n=1∨n=2∨n=3∨n=4:=by omega
 clear hrow
 rcases hn' with rfl|rfl|rfl|rfl|rfl
 all_goals exact Ev.facts (r:=.atom 70) Af hnu hk hf rfl rfl
theorem Aqw {b:Tb} (hb:b.Wf):Ev PG Ll [Cb 1 b.val [] [] [] .nilslice E7.zero E7.zero] (.str b.crT):=by
 have hT:subD (Ab (b.val++[.str b.crT])) (Cf (nI 1) Fb (.str []) (.str []) (.str []) .nilslice E7.zero.L E7.zero.L)=Cb 1 b.val [] [] [] .nilslice E7.zero E7.zero:=rfl
 have hnu:Bc (Ab (b.val++[.str b.crT])):=Ap (by rw [List.all_append,Qr];rfl)
 have:=Ev.facts (nu:=Ab (b.val++[.str b.crT])) (args:=[Cf (nI 1) Fb (.str []) (.str []) (.str []) .nilslice E7.zero.L E7.zero.L]) (r:=.atom 12) Af hnu (As Aty) ⟨Ai (Aot hb) rfl rfl rfl,trivial⟩ (Oz hT (Ah8 b) rfl rfl) rfl
 simp only [List.map_cons,List.map_nil,hT] at this
 exact this
theorem Arq {x:Sx} (hx:x.wf):Ev PG Ll [x.pv] (.str x.txt):=by
 match x,hx with
 | .cre b,hx =>
  show Ev PG _ _ (.str (B0 b.pcs))
  rw [Ye hx]
  exact Aqw hx
 | .drop nm,hx =>
  have h:=Ap0 hx
  have e:kw "drop table " = kw "drop" ++ ([32]++(kw "table" ++ [32])):=by decide
  rw [e] at h
  have e2:(Sx.drop nm).txt=kw "drop" ++ ([32]++(kw "table" ++ [32]))++nm:=by
   show []++(kw "drop" ++ ([32]++(kw "table" ++ ([32]++(nm++[])))))=_
   simp
  rw [e2];exact h
 | .link nm col dst,hx =>
  have h:=Ao4 hx.1 hx.2.1 hx.2.2
  have e:kw "alter table " = kw "alter" ++ ([32]++(kw "table" ++ [32])):=by decide
  have e1:kw " add foreign key (" = [32]++(kw "add" ++ ([32]++(kw "foreign" ++ ([32]++(kw "key" ++ ([32]++[40])))))):=by decide
  have e3:kw ") references " = [41]++([32]++(kw "references" ++ [32])):=by decide
  rw [e,e1,e3] at h
  have e2:(Sx.link nm col dst).txt=kw "alter" ++ ([32]++(kw "table" ++ [32]))++nm++([32]++(kw "add" ++ ([32]++(kw "foreign" ++ ([32]++(kw "key" ++ ([32]++[40])))))))++col++([41]++([32]++(kw "references" ++ [32])))++dst:=by
   show []++(kw "alter" ++ ([32]++(kw "table" ++ ([32]++(nm++([32]++(kw "add" ++ ([32]++(kw "foreign" ++ ([32]++(kw "key" ++ ([32]++([40]++([]++(col++([]++([41]++([32]++(kw "references" ++ ([32]++(dst++[])))))))))))))))))))))=_
   simp
  rw [e2];exact h
 | .ins nm vs,hx =>
  have h:=Aqi hx.1 hx.2.1 hx.2.2.1 hx.2.2.2
  have e:kw "insert into " = kw "insert" ++ ([32]++(kw "into" ++ [32])):=by decide
  have e1:kw " values (" = [32]++(kw "values" ++ ([32]++[40])):=by decide
  have e3:kw ")" = [41]:=by decide
  rw [e,e1,e3] at h
  have e2:(Sx.ins nm vs).txt=kw "insert" ++ ([32]++(kw "into" ++ [32]))++nm++([32]++(kw "values" ++ ([32]++[40])))++Ei vs++[41]:=by
   show B0 ([(false,It.w (kw "insert")),(true, .w (kw "into")),(true, .w nm),(true, .w (kw "values")),(true, .m 2)]++(Gt false vs++[(false, .m 3)]))=_
   rw [F2,F2,Xe vs false hx.2.1]
   show ([]++(kw "insert" ++ ([32]++(kw "into" ++ ([32]++(nm++([32]++(kw "values" ++ ([32]++([40]++[]))))))))))++(([]++Ei vs)++([]++([41]++[])))=_
   simp
  rw [e2];exact h
 | .upd nm col e w,hx =>
  have h:=Arr hx.1 hx.2.1 hx.2.2.1 hx.2.2.2
  have e0:kw "update " = kw "update" ++ [32]:=by decide
  have e1:kw " set " = [32]++(kw "set" ++ [32]):=by decide
  have e3:kw " = " = [32]++([61]++[32]):=by decide
  rw [e0,e1,e3] at h
  have e2:(Sx.upd nm col e w).txt=kw "update" ++ [32]++nm++([32]++(kw "set" ++ [32]))++col++([32]++([61]++[32]))++e.txt++Dq w:=by
   show B0 ([(false,It.w (kw "update")),(true, .w nm),(true, .w (kw "set")),(true, .w col),(true, .m 6),(true, .x e)]++D3 w)=_
   rw [F2,Ht]
   show ([]++(kw "update" ++ ([32]++(nm++([32]++(kw "set" ++ ([32]++(col++([32]++([61]++([32]++(e.txt++[]))))))))))))++Dq w=_
   simp
  rw [e2];exact h
 | .del nm w,hx =>
  have h:=Acv hx.1 hx.2 (k:=0) (by decide)
  have e0:kw (E4 0)=kw "delete" ++ ([32]++(kw "from" ++ [32])):=by decide
  rw [e0] at h
  have e2:(Sx.del nm w).txt=kw "delete" ++ ([32]++(kw "from" ++ [32]))++nm++Dq w:=by
   show B0 ([(false,It.w (kw "delete")),(true, .w (kw "from")),(true, .w nm)]++D3 w)=_
   rw [F2,Ht]
   show ([]++(kw "delete" ++ ([32]++(kw "from" ++ ([32]++(nm++[]))))))++Dq w=_
   simp
  rw [e2];exact h
 | .slc nm w,hx =>
  have h:=Acv hx.1 hx.2 (k:=1) (by decide)
  have e0:kw (E4 1)=kw "select" ++ ([32]++([42]++([32]++(kw "from" ++ [32])))):=by decide
  rw [e0] at h
  have e2:(Sx.slc nm w).txt=kw "select" ++ ([32]++([42]++([32]++(kw "from" ++ [32]))))++nm++Dq w:=by
   show B0 ([(false,It.w (kw "select")),(true, .m 10),(true, .w (kw "from")),(true, .w nm)]++D3 w)=_
   rw [F2,Ht]
   show ([]++(kw "select" ++ ([32]++([42]++([32]++(kw "from" ++ ([32]++(nm++[]))))))))++Dq w=_
   simp
  rw [e2];exact h
 | .cou nm w,hx =>
  have h:=Acv hx.1 hx.2 (k:=2) (by decide)
  have e0:kw (E4 2)=kw "select" ++ ([32]++(kw "count" ++ ([40]++([42]++([41]++([32]++(kw "from" ++ [32]))))))):=by decide
  rw [e0] at h
  have e2:(Sx.cou nm w).txt=kw "select" ++ ([32]++(kw "count" ++ ([40]++([42]++([41]++([32]++(kw "from" ++ [32])))))))++nm++Dq w:=by
   show B0 ([(false,It.w (kw "select")),(true, .w (kw "count")),(false, .m 2),(false, .m 10),(false, .m 3),(true, .w (kw "from")),(true, .w nm)]++D3 w)=_
   rw [F2,Ht]
   show ([]++(kw "select" ++ ([32]++(kw "count" ++ ([]++([40]++([]++([42]++([]++([41]++([32]++(kw "from" ++ ([32]++(nm++[]))))))))))))))++Dq w=_
   simp
  rw [e2];exact h
end Go.Proofs.YtdlkibeljkapeaaGreatDoor.Den
