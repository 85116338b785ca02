-- Written by drive.py and pack.py (programs of this proof's own) through the kit's printer; not trusted: Lean checks it.
import Derived.Test.YtglffgneikoeaaaCEvalAll12
namespace Go.Proofs.Ytglffgneikoeaaa.Den
open Go Go.RowKit
open Go.Proofs.Ytglffgneikoeaaa.M
def tvV:Nat→V4
 | 0=>(0,0,0,[])
 | 1=>(1,0,0,[])
 | _=>(1,1,0,[])
theorem A1f:∀ m,vV (tvV m)=tv m
 | 0=>rfl
 | 1=>rfl
 | _+2=>rfl
theorem A9o:Made 1 0 0 ⟨#[]⟩:=⟨by decide +kernel,⟨by unfold I64;decide,fun e=>absurd e (by decide)⟩,by decide,by decide,by decide,fun _=>rfl⟩
theorem A9y:Made 1 1 0 ⟨#[]⟩:=⟨by decide +kernel,⟨by unfold I64;decide,fun e=>absurd e (by decide)⟩,by decide,by decide,by decide,fun _=>rfl⟩
theorem A2z:∀ m,MV (tvV m)
 | 0=>A2x
 | 1=>⟨0,⟨#[]⟩,rfl,rfl,A9o⟩
 | _+2=>⟨0,⟨#[]⟩,rfl,rfl,A9y⟩
theorem A3m:∀ m,(tvV m).1=0∨(tvV m).1=1
 | 0=>.inl rfl
 | 1=>.inr rfl
 | _+2=>.inr rfl
theorem A3n {v:V4} (h:MV v) (hk:v.1=0∨v.1=1):∃ m,m < 3∧v=tvV m:=by
 obtain ⟨S,st,h1,h2,m⟩:=h
 obtain ⟨kd,n,sc,l⟩:=v
 dsimp only at h1 h2 m hk
 have hr:=m.r
 have hno:noS st=true→st.data.toList=[]:=fun h7=>by
  unfold noS at h7
  rw [Lib.toList_data] at h7
  exact eq_of_beq h7
 unfold rightB at hr
 rcases hk with rfl|rfl
 ·rw [if_pos rfl] at hr
  simp only [Bool.and_eq_true,beq_iff_eq] at hr
  obtain ⟨rfl,h3,h4⟩:=hr
  rw [hno h4] at h2
  refine ⟨0,by decide,?_⟩
  rw [h1,h2,h3];rfl
 ·rw [if_neg (by decide),if_pos rfl] at hr
  simp only [Bool.and_eq_true,beq_iff_eq,decide_eq_true_eq] at hr
  obtain ⟨h5,h3,h4⟩:=hr
  rw [hno h4] at h2
  have hn:n=0∨n=1:=by omega
  rcases hn with rfl|rfl
  ·refine ⟨1,by decide,?_⟩;rw [h1,h2,h3];rfl
  ·refine ⟨2,by decide,?_⟩;rw [h1,h2,h3];rfl
structure VOk (tP rP:PV) (x:PV) (v:V4) (e:Int):Prop where
 ev:Ev PG A2k [tP,rP,x] (.tup [vV v,nI e])
 rf:Ev PG A2m [tP,rP,x] (.tup [vV v,nI e])
def A0q (k:Nat) (v:V4) (e:Int):Prop:=(e=0∧MV v∧(v.1=0∨v.1=k))∨((e=5∨e=10)∧v=(0,0,0,[]))
def yN (nm:List UInt8) (cl:PV) (key:Int) (uq lk row:PV) (a b:E7) (v w r:V4) (e:Int):List PV :=
 [.str nm,cl,nI key,uq,nI 0, .str [],nI 0,nI 0,nI 0, .str [], .nilslice,lk,row,nI 0,nI 0,nI 0,nI 0,nI 0,nI 0,nI 0,nI 0,nI 0,nI 0,nI 0,nI 0,nI 0,nI 0,nI 0,nI 0,nI 0]++(a.L++([nI 0,nI 0,nI 0,nI 0,nI 0,nI 0,nI 0,nI 0,nI 0,nI 0,nI 0,nI 0,nI 0,nI 0,nI 0,nI 0,nI 0,nI 0,nI 0,nI 0,nI 0,nI 0,nI 0]++(b.L ++
  [nI 0,nI 0,nI 0,nI v.1,nI v.2.1,nI v.2.2.1, .str v.2.2.2,nI w.1,nI w.2.1,nI w.2.2.1, .str w.2.2.2,nI 0,nI 0,nI r.1,nI r.2.1,nI r.2.2.1, .str r.2.2.2,nI e])))
section
variable {nm:List UInt8} {cl:PV} {key:Int} {uq lk row:PV} (hc:Ad3 cl=true) (hu:Ad3 uq=true) (hl:Ad3 lk=true) (hw:Ad3 row=true)
include hc hu hl hw
theorem A6b {a b:E7} {v w r:V4} {e:Int} (ha:a.ok=true) (hb:b.ok=true):NuOk (nuL (yN nm cl key uq lk row a b v w r e)):=by
 refine nuL_okB ?_
 simp only [Ad3,Bool.and_eq_true] at hc hu hl hw
 unfold yN
 rw [List.all_append,List.all_append,List.all_append,List.all_append,show (a.L.all fun p=>p.clean&&p.pure)=true from ha,show (b.L.all fun p=>p.clean&&p.pure)=true from hb]
 simp only [List.all_cons,hc.1,hc.2.1,hu.1,hu.2.1,hl.1,hl.2.1,hw.1,hw.2.1]
 rfl
theorem A5v {nu:Nat→PV} {x r:PV} (h0:subD nu tbA=tbP nm cl key uq lk) (h12:nu 12=row) (h1:subD nu x=r) (h2:r.pure=true) (h3:oneB nu tbA=true) (h4:oneB nu x=true) (h5:x.shut=true):([tbA, .atom 12,x].all fun p=>argB nu p&&p.shut)=true:=by
 have hp:=A3j (nm:=nm) (key:=key) hc hu hl
 simp only [Ad3,Bool.and_eq_true] at hw
 have h6:argB nu (.atom 12)=true:=by
  show ((nu 12).pure&&(nu 12).one)=true
  rw [h12,hw.2.1,hw.2.2];rfl
 simp only [List.all_cons,List.all_nil,h6]
 simp only [argB,h0,h1,hp,h2,h3,h4,h5]
 rfl
set_option maxRecDepth 20000 in
theorem A02 {g:Nat} {x v e:PV} {fs:List Fact} (hk:evK g x v e fs=true) {a b:E7} {p q r:V4} {z:Int} (ha:a.ok=true) (hb:b.ok=true) (hf:FactsOk PG (nuL (yN nm cl key uq lk row a b p q r z)) fs) {y:PV} (hy:subD (nuL (yN nm cl key uq lk row a b p q r z)) x=y) (hyp:y.pure=true) (h4:oneB (nuL (yN nm cl key uq lk row a b p q r z)) x=true) (h5:x.shut=true)
  {V:V4} {E:Int} (hV:subD (nuL (yN nm cl key uq lk row a b p q r z)) v=vV V) (hE:subD (nuL (yN nm cl key uq lk row a b p q r z)) e=nI E) :
  Ev PG g [tbP nm cl key uq lk,row,y] (.tup [vV V,nI E]):=by
 have hres:subD (nuL (yN nm cl key uq lk row a b p q r z)) (.tup [v,e]) = .tup [vV V,nI E]:=by
  show PV.tup [subD _ v,subD _ e]=_
  rw [hV,hE]
 have h:=Ev.facts (args:=[tbA, .atom 12,x]) (r:=.tup [v,e]) prog_ok (A6b (nm:=nm) (key:=key) hc hu hl hw ha hb) (okR_eq hk) hf (A5v hc hu hl hw rfl rfl hy hyp rfl h4 h5) (by rw [hres];rfl)
 rw [hres] at h
 simp only [List.map_cons,List.map_nil,hy] at h
 exact h
end
theorem A79:((List.range 6).all fun k=>((Aep 3 [k]).2 != 0||(Nat.ble k 1&&Nat.beq (Aep 3 [k]).1 1))&&(((Aep 4 [k]).2 != 0||Nat.beq (Aep 4 [k]).1 k)&&(Nat.beq (Aep 5 [k]).1 1)))=true:=by decide
theorem A8l:((List.range 6).all fun k=>(List.range 6).all fun l=>((List.range 3).all fun i=>(Aep (6+i) [k,l]).2 != 0||(Nat.beq k 0||Nat.beq (Aep (6+i) [k,l]).1 k))&&(((List.range 4).all fun i=>(Aep (9+i) [k,l]).2 != 0||Nat.beq (Aep (9+i) [k,l]).1 1)&&((List.range 2).all fun i=>(Aep (13+i) [k,l]).2 != 0||(Nat.ble k 1&&(Nat.ble l 1&&Nat.beq (Aep (13+i) [k,l]).1 1)))))=true:=by decide +kernel
open Go Go.RowKit
open Go.Proofs.Ytglffgneikoeaaa.M
theorem A0w {f:Nat→Bool} (h:Am3 f=true):f A2k=true∧f A2m=true:=by
 unfold Am3 at h;rwa [Bool.and_eq_true] at h
theorem A5q {nu:Nat→PV} {ty:Nat} {e:Int} (h0:nu 84=nI e) (h:e≠0):FactOk PG nu (.op (.bin .neq ty) [.atom 84,nI 0] (.bool true)) :=
 fCmp (a:=e) (b:=0) (c:=true) h0 rfl rfl (by simp only [intP];simp [h]) (by decide) rfl
theorem A2w {nu:Nat→PV} {e:Int} (h0:nu 84=nI e) (h:e≠0):FactsOk PG nu neF:=⟨A5q h0 h,A5q h0 h,trivial⟩
theorem A6e {k1 k:Nat} {v:V4} {r:Int × Int × Int × ByteArray × Int} (h:A1g v.1 r) (hv:v.1=0∨v.1=k1) (hk:k1=0∨k1=k):A0q k (v5 r) r.2.2.2.2:=by
 rcases h with ⟨h1,h2,h3⟩|⟨h1,h2⟩
 ·refine .inl ⟨h1,h2,?_⟩
  show r.1=0∨r.1=k
  rcases h3 with h3|h3
  ·exact .inl h3
  ·rcases hv with hv|hv
   ·exact .inl (by rw [h3,hv])
   ·rcases hk with hk|hk
    ·exact .inl (by rw [h3,hv,hk];rfl)
    ·exact .inr (by rw [h3,hv,hk])
 ·exact .inr ⟨h1,h2⟩
theorem A9n (a b c:V4):Amz 4 a b=Amz 4 a c:=by
 unfold Amz reckB
 rw [if_pos rfl,if_pos rfl]
section
variable {nm:List UInt8} {cl:PV} {key:Int} {uq lk row:PV} (hc:Ad3 cl=true) (hu:Ad3 uq=true) (hl:Ad3 lk=true) (hw:Ad3 row=true)
include hc hu hl hw
set_option maxRecDepth 20000 in
theorem A8o {j:Nat} (hj:j < 3) {a:Xe} {k1 k:Nat} (hb:k1 < 6) (ht:Aep (3+j) [k1]=(k,0)) {v:V4} {e:Int} (h:VOk (tbP nm cl key uq lk) row a.e7.pv v e) (hr:A0q k1 v e):∃ v' e',VOk (tbP nm cl key uq lk) row (Xe.un j a).e7.pv v' e'∧A0q k v' e':=by
 have hjm:j∈List.range 3:=by rw [List.mem_range];exact hj
 have hpu:(Xe.un j a).e7.pv.pure=true:=E7.pure (E7.un_ok (e7_ok a))
 rcases hr with ⟨rfl,hm,hkd⟩|⟨he,rfl⟩
 ·have hk1m:k1∈List.range 6:=by rw [List.mem_range];exact hb
  have htl:=List.all_eq_true.1 A79 k1 hk1m
  simp only [Bool.and_eq_true,Bool.or_eq_true,bne_iff_ne,ne_eq,Nat.ble_eq,Nat.beq_eq] at htl
  obtain ⟨t1,t2,t3⟩:=htl
  have c:j=0∨j=1∨j=2:=by omega
  rcases c with rfl|rfl|rfl
  ·rw [ht] at t1
   rcases t1 with t1|⟨t1,t4⟩
   ·exact absurd rfl t1
   dsimp only at t4
   subst t4
   obtain ⟨m,hm3,rfl⟩:=A3n hm (by omega)
   have hk:=A0w A85
   have hmm:m∈List.range 3:=by rw [List.mem_range];exact hm3
   have gen:∀ g,evK g (unX 3 [eA 30]) (tv (A3x m)) (nI 0) [evF g 30 (tv m) (nI 0)]=true→Ev PG g [tbP nm cl key uq lk,row,a.e7.pv] (.tup [vV (tvV m),nI 0])→Ev PG g [tbP nm cl key uq lk,row,(Xe.un 0 a).e7.pv] (.tup [vV (tvV (A3x m)),nI 0]):=fun g hg hev=>by
    rw [A1f] at hev
    have hsub:∀ (nu:Nat→PV) m,subD nu (tv m)=tv m:=fun nu m=>by match m with|0=>rfl|1=>rfl|_+2=>rfl
    exact A02 hc hu hl hw (a:=a.e7) (b:=E7.zero) (p:=(0,0,0,[])) (q:=(0,0,0,[])) (r:=(0,0,0,[])) (z:=0) hg (e7_ok a) rfl ⟨fprim hev rfl (by show PV.tup [subD _ (tv m),nI 0]=_;rw [hsub]) (by match m with|0=>rfl|1=>rfl|_+2=>rfl),trivial⟩ rfl hpu rfl rfl (by rw [hsub,A1f]) rfl
   refine ⟨_,_,⟨gen _ (List.all_eq_true.1 hk.1 m hmm) h.ev,gen _ (List.all_eq_true.1 hk.2 m hmm) h.rf⟩, .inl ⟨rfl,A2z _,?_⟩⟩
   have:=A3m (A3x m)
   omega
  ·rw [ht] at t2
   rcases t2 with t2|t2
   ·exact absurd rfl t2
   dsimp only at t2
   subst t2
   have hk:=A0w A8n
   obtain ⟨r,hre⟩:∃ r,r=Amz 4 v (0,0,0,[]):=⟨_,rfl⟩
   have r1:=A3i hm hm 4
   have r2:=A3i hm A2x 4
   have r3:=A5m hm A2x 4
   rw [A9n v v (0,0,0,[]),← hre] at r1
   rw [← hre] at r2 r3
   have gen:∀ g,evK g (unX 4 [eA 30]) (va 80) (.atom 84) (evF g 30 (va 70) (nI 0)::rkF 4 zV)=true→Ev PG g [tbP nm cl key uq lk,row,a.e7.pv] (.tup [vV v,nI 0])→Ev PG g [tbP nm cl key uq lk,row,(Xe.un 1 a).e7.pv] (.tup [vV (v5 r),nI r.2.2.2.2]):=fun g hg hev =>
    A02 hc hu hl hw (a:=a.e7) (b:=E7.zero) (p:=v) (q:=(0,0,0,[])) (r:=v5 r) (z:=r.2.2.2.2) hg (e7_ok a) rfl ⟨fprim hev rfl rfl rfl,fprim r1 rfl rfl rfl,fprim r2 rfl rfl rfl,fprim r3 rfl rfl rfl,trivial⟩ rfl hpu rfl rfl rfl rfl
   refine ⟨_,_,⟨gen _ hk.1 h.ev,gen _ hk.2 h.rf⟩,A6e (v:=v) ?_ hkd (.inr rfl)⟩
   rw [hre]
   exact A5p 4 v _
  ·have hk:=A0w A9h
   rw [ht] at t3
   dsimp only at t3
   subst t3
   obtain ⟨S,st,e1,e2,m⟩:=hm
   have h0:=m.k0
   have h5:=m.k5
   have ek:v.1=((v.1.toNat:Nat):Int):=by omega
   have hkm:v.1.toNat∈List.range 6:=by rw [List.mem_range];omega
   have gen:∀ g,evK g (unX 5 [eA 30]) (tv (if Nat.beq v.1.toNat 0 then 2 else 1)) (nI 0) [evF g 30 (.agg [nI (v.1.toNat:Nat), .atom 71, .atom 72, .atom 73]) (nI 0)]=true→Ev PG g [tbP nm cl key uq lk,row,a.e7.pv] (.tup [vV v,nI 0])→Ev PG g [tbP nm cl key uq lk,row,(Xe.un 2 a).e7.pv] (.tup [vV (tvV (if Nat.beq v.1.toNat 0 then 2 else 1)),nI 0]):=fun g hg hev=>by
    have hv:vV v = .agg [nI (v.1.toNat:Nat),nI v.2.1,nI v.2.2.1, .str v.2.2.2]:=by rw [← ek];rfl
    rw [hv] at hev
    have hsub:∀ (nu:Nat→PV) (b:Bool),subD nu (tv (if b then 2 else 1))=vV (tvV (if b then 2 else 1)):=fun nu b=>by cases b<;>rfl
    exact A02 hc hu hl hw (a:=a.e7) (b:=E7.zero) (p:=v) (q:=(0,0,0,[])) (r:=(0,0,0,[])) (z:=0) hg (e7_ok a) rfl ⟨fprim hev rfl rfl rfl,trivial⟩ rfl hpu rfl rfl (hsub _ _) rfl
   refine ⟨_,_,⟨gen _ (List.all_eq_true.1 hk.1 _ hkm) h.ev,gen _ (List.all_eq_true.1 hk.2 _ hkm) h.rf⟩, .inl ⟨rfl,A2z _,?_⟩⟩
   have:=A3m (if Nat.beq v.1.toNat 0 then 2 else 1)
   omega
 ·have hk:=A0w A87
  have gen:∀ g,evK g (unX (3+j) [eA 30]) zV (.atom 84) (evF g 30 zV (.atom 84)::neF)=true→Ev PG g [tbP nm cl key uq lk,row,a.e7.pv] (.tup [vV (0,0,0,[]),nI e])→Ev PG g [tbP nm cl key uq lk,row,(Xe.un j a).e7.pv] (.tup [vV (0,0,0,[]),nI e]):=fun g hg hev =>
   A02 hc hu hl hw (a:=a.e7) (b:=E7.zero) (p:=(0,0,0,[])) (q:=(0,0,0,[])) (r:=(0,0,0,[])) (z:=e) hg (e7_ok a) rfl ⟨fprim hev rfl rfl rfl,A2w rfl (by omega)⟩ rfl hpu rfl rfl rfl rfl
  exact ⟨_,_,⟨gen _ (List.all_eq_true.1 hk.1 j hjm) h.ev,gen _ (List.all_eq_true.1 hk.2 j hjm) h.rf⟩, .inr ⟨he,rfl⟩⟩
end
open Go Go.RowKit
open Go.Proofs.Ytglffgneikoeaaa.M
section
variable {nm:List UInt8} {cl:PV} {key:Int} {uq lk row:PV} (hc:Ad3 cl=true) (hu:Ad3 uq=true) (hl:Ad3 lk=true) (hw:Ad3 row=true)
include hc hu hl hw
set_option maxRecDepth 20000 in
theorem A9b {i:Nat} (hi:i < 9) {a b:Xe} {k1 k2 k:Nat} (hb1:k1 < 6) (hb2:k2 < 6) (ht:Aep (6+i) [k1,k2]=(k,0)) {v:V4} {e:Int} (h:VOk (tbP nm cl key uq lk) row a.e7.pv v e) (hr:A0q k1 v e) {w:V4} {f:Int} (h':VOk (tbP nm cl key uq lk) row b.e7.pv w f) (hr':A0q k2 w f):∃ v' e',VOk (tbP nm cl key uq lk) row (Xe.op i a b).e7.pv v' e'∧A0q k v' e':=by
 have him:i∈List.range 9:=by rw [List.mem_range];exact hi
 have hpu:(Xe.op i a b).e7.pv.pure=true:=E7.pure (E7.bin_ok (e7_ok a) (e7_ok b))
 have ha:=e7_ok a
 have hb:=e7_ok b
 rcases hr with ⟨rfl,hm,hkd⟩|⟨he,rfl⟩
 ·rcases hr' with ⟨rfl,hm',hkd'⟩|⟨he,rfl⟩
  ·have htl:=List.all_eq_true.1 (List.all_eq_true.1 A8l k1 (by rw [List.mem_range];exact hb1)) k2 (by rw [List.mem_range];exact hb2)
   simp only [Bool.and_eq_true,List.all_eq_true,List.mem_range] at htl
   obtain ⟨t1,t2,t3⟩:=htl
   rcases (show i < 3∨(∃ j,j < 4∧i=3+j)∨(∃ j,j < 2∧i=7+j) by
    by_cases h3:i < 3
    ·exact .inl h3
    ·by_cases h7:i < 7
     ·exact .inr (.inl ⟨i - 3,by omega,by omega⟩)
     ·exact .inr (.inr ⟨i - 7,by omega,by omega⟩)) with h3|⟨j,hj,rfl⟩|⟨j,hj,rfl⟩
   ·have t:=t1 i h3
    rw [ht] at t
    simp only [Bool.or_eq_true,bne_iff_ne,ne_eq,Nat.beq_eq,not_true_eq_false,false_or] at t
    have hk:=A0w A9p
    have him3:i∈List.range 3:=by rw [List.mem_range];exact h3
    obtain ⟨r,hre⟩:∃ r,r=Amz ((6+i:Nat):Int) v w:=⟨_,rfl⟩
    have r1:=A3i hm hm ((6+i:Nat):Int)
    have r2:=A3i hm hm' ((6+i:Nat):Int)
    have r3:=A5m hm hm' ((6+i:Nat):Int)
    rw [← hre] at r2 r3
    have gen:∀ g,evK g (unX (6+i) [eA 30,eA 60]) (va 80) (.atom 84) (evF g 30 (va 70) (nI 0)::evF g 60 (va 74) (nI 0)::rkG (6+i))=true→Ev PG g [tbP nm cl key uq lk,row,a.e7.pv] (.tup [vV v,nI 0])→Ev PG g [tbP nm cl key uq lk,row,b.e7.pv] (.tup [vV w,nI 0])→Ev PG g [tbP nm cl key uq lk,row,(Xe.op i a b).e7.pv] (.tup [vV (v5 r),nI r.2.2.2.2]):=fun g hg hev hev' =>
     A02 hc hu hl hw (a:=a.e7) (b:=b.e7) (p:=v) (q:=w) (r:=v5 r) (z:=r.2.2.2.2) hg ha hb ⟨fprim hev rfl rfl rfl,fprim hev' rfl rfl rfl,fprim r2 rfl rfl rfl,fprim r3 rfl rfl rfl,trivial⟩ rfl hpu rfl rfl rfl rfl
    refine ⟨_,_,⟨gen _ (List.all_eq_true.1 hk.1 i him3) h.ev h'.ev,gen _ (List.all_eq_true.1 hk.2 i him3) h.rf h'.rf⟩,A6e (v:=v) ?_ hkd (t.imp id (fun h=>h.symm))⟩
    rw [hre]
    exact A5p _ v w
   ·have t:=t2 j hj
    rw [show 9+j=6+(3+j) by omega,ht] at t
    simp only [Bool.or_eq_true,bne_iff_ne,ne_eq,Nat.beq_eq,not_true_eq_false,false_or] at t
    subst t
    have hk:=A0w A9a
    have hjm:j∈List.range 4:=by rw [List.mem_range];exact hj
    have f1:=A72 hm hm'
    have f2:=A71 hm hm'
    have f3:=A7y hm hm'
    have f4:=A77 hm hm'
    have gen:∀ g,evK g (unX (9+j) [eA 30,eA 60]) (tv (A3w (3+j) (A1j v w) (ltB v w) (knB v w))) (nI 0) (evF g 30 (va 70) (nI 0)::evF g 60 (va 74) (nI 0)::cpF (A1j v w) (ltB v w) (knB v w))=true→Ev PG g [tbP nm cl key uq lk,row,a.e7.pv] (.tup [vV v,nI 0])→Ev PG g [tbP nm cl key uq lk,row,b.e7.pv] (.tup [vV w,nI 0])→Ev PG g [tbP nm cl key uq lk,row,(Xe.op (3+j) a b).e7.pv] (.tup [vV (tvV (A3w (3+j) (A1j v w) (ltB v w) (knB v w))),nI 0]):=fun g hg hev hev'=>by
     have hsub:∀ (nu:Nat→PV) m,subD nu (tv m)=vV (tvV m):=fun nu m=>by match m with|0=>rfl|1=>rfl|_+2=>rfl
     have e9:9+j=6+(3+j):=by omega
     rw [e9] at hg
     exact A02 hc hu hl hw (a:=a.e7) (b:=b.e7) (p:=v) (q:=w) (r:=(0,0,0,[])) (z:=0) hg ha hb ⟨fprim hev rfl rfl rfl,fprim hev' rfl rfl rfl,fprim f1 rfl rfl rfl,fprim f2 rfl rfl rfl,fprim f3 rfl rfl rfl,fprim f4 rfl rfl rfl,trivial⟩ rfl hpu rfl rfl (hsub _ _) rfl
    refine ⟨_,_,⟨gen _ (bl_all (bl_all (bl_all (List.all_eq_true.1 hk.1 j hjm) _) _) _) h.ev h'.ev,gen _ (bl_all (bl_all (bl_all (List.all_eq_true.1 hk.2 j hjm) _) _) _) h.rf h'.rf⟩, .inl ⟨rfl,A2z _,?_⟩⟩
    have:=A3m (A3w (3+j) (A1j v w) (ltB v w) (knB v w))
    omega
   ·have t:=t3 j hj
    rw [show 13+j=6+(7+j) by omega,ht] at t
    simp only [Bool.or_eq_true,Bool.and_eq_true,bne_iff_ne,ne_eq,Nat.beq_eq,Nat.ble_eq,not_true_eq_false,false_or] at t
    obtain ⟨q1,q2,rfl⟩:=t
    obtain ⟨m,hm3,rfl⟩:=A3n hm (by omega)
    obtain ⟨n,hn3,rfl⟩:=A3n hm' (by omega)
    have hk:=A0w A8q
    have hjm:j∈List.range 2:=by rw [List.mem_range];exact hj
    have hmm:m∈List.range 3:=by rw [List.mem_range];exact hm3
    have hnm:n∈List.range 3:=by rw [List.mem_range];exact hn3
    have gen:∀ g,evK g (unX (13+j) [eA 30,eA 60]) (tv (bothR (7+j) m n)) (nI 0) [evF g 30 (tv m) (nI 0),evF g 60 (tv n) (nI 0)]=true→Ev PG g [tbP nm cl key uq lk,row,a.e7.pv] (.tup [vV (tvV m),nI 0])→Ev PG g [tbP nm cl key uq lk,row,b.e7.pv] (.tup [vV (tvV n),nI 0])→Ev PG g [tbP nm cl key uq lk,row,(Xe.op (7+j) a b).e7.pv] (.tup [vV (tvV (bothR (7+j) m n)),nI 0]):=fun g hg hev hev'=>by
     rw [A1f] at hev hev'
     have hsub:∀ (nu:Nat→PV) m,subD nu (tv m)=tv m:=fun nu m=>by match m with|0=>rfl|1=>rfl|_+2=>rfl
     have hone:∀ (nu:Nat→PV) m,oneB nu (.tup [tv m,nI 0])=true:=fun nu m=>by match m with|0=>rfl|1=>rfl|_+2=>rfl
     have e9:13+j=6+(7+j):=by omega
     rw [e9] at hg
     exact A02 hc hu hl hw (a:=a.e7) (b:=b.e7) (p:=(0,0,0,[])) (q:=(0,0,0,[])) (r:=(0,0,0,[])) (z:=0) hg ha hb ⟨fprim hev rfl (by show PV.tup [subD _ (tv m),nI 0]=_;rw [hsub]) (hone _ m),fprim hev' rfl (by show PV.tup [subD _ (tv n),nI 0]=_;rw [hsub]) (hone _ n),trivial⟩ rfl hpu rfl rfl (by rw [hsub,A1f]) rfl
    refine ⟨_,_,⟨gen _ (List.all_eq_true.1 (List.all_eq_true.1 (List.all_eq_true.1 hk.1 j hjm) m hmm) n hnm) h.ev h'.ev,gen _ (List.all_eq_true.1 (List.all_eq_true.1 (List.all_eq_true.1 hk.2 j hjm) m hmm) n hnm) h.rf h'.rf⟩, .inl ⟨rfl,A2z _,?_⟩⟩
    have:=A3m (bothR (7+j) m n)
    omega
  ·have hk:=A0w A78
   have gen:∀ g,evK g (unX (6+i) [eA 30,eA 60]) zV (.atom 84) (evF g 30 (va 70) (nI 0)::evF g 60 zV (.atom 84)::neF)=true→Ev PG g [tbP nm cl key uq lk,row,a.e7.pv] (.tup [vV v,nI 0])→Ev PG g [tbP nm cl key uq lk,row,b.e7.pv] (.tup [vV (0,0,0,[]),nI f])→Ev PG g [tbP nm cl key uq lk,row,(Xe.op i a b).e7.pv] (.tup [vV (0,0,0,[]),nI f]):=fun g hg hev hev' =>
    A02 hc hu hl hw (a:=a.e7) (b:=b.e7) (p:=v) (q:=(0,0,0,[])) (r:=(0,0,0,[])) (z:=f) hg ha hb ⟨fprim hev rfl rfl rfl,fprim hev' rfl rfl rfl,A2w rfl (by omega)⟩ rfl hpu rfl rfl rfl rfl
   exact ⟨_,_,⟨gen _ (List.all_eq_true.1 hk.1 i him) h.ev h'.ev,gen _ (List.all_eq_true.1 hk.2 i him) h.rf h'.rf⟩, .inr ⟨he,rfl⟩⟩
 ·have hk:=A0w A8i
  have gen:∀ g,evK g (unX (6+i) [eA 30,eA 60]) zV (.atom 84) (evF g 30 zV (.atom 84)::neF)=true→Ev PG g [tbP nm cl key uq lk,row,a.e7.pv] (.tup [vV (0,0,0,[]),nI e])→Ev PG g [tbP nm cl key uq lk,row,(Xe.op i a b).e7.pv] (.tup [vV (0,0,0,[]),nI e]):=fun g hg hev =>
   A02 hc hu hl hw (a:=a.e7) (b:=b.e7) (p:=(0,0,0,[])) (q:=(0,0,0,[])) (r:=(0,0,0,[])) (z:=e) hg ha hb ⟨fprim hev rfl rfl rfl,A2w rfl (by omega)⟩ rfl hpu rfl rfl rfl rfl
  exact ⟨_,_,⟨gen _ (List.all_eq_true.1 hk.1 i him) h.ev,gen _ (List.all_eq_true.1 hk.2 i him) h.rf⟩, .inr ⟨he,rfl⟩⟩
end
open Go Go.RowKit
open Go.Proofs.Ytglffgneikoeaaa.M
section
variable {nm:List UInt8} {cl:PV} {key:Int} {uq lk row:PV} (hc:Ad3 cl=true) (hu:Ad3 uq=true) (hl:Ad3 lk=true) (hw:Ad3 row=true)
include hc hu hl hw
set_option maxRecDepth 20000 in
theorem A3o {ty:Nat→Nat} {nc:Nat} (hB:∀ x:Xe,x.wf→tyB (x.ty ty nc)=true) (hcol:∀ c,c < nc→∃ v e,VOk (tbP nm cl key uq lk) row (Xe.col c).e7.pv v e∧A0q (ty c) v e) :
  ∀ x:Xe,x.wf→∀ k,x.ty ty nc=(k,0)→∃ v e,VOk (tbP nm cl key uq lk) row x.e7.pv v e∧A0q k v e
 | .lit v,hx,k,ht=>by
  have hk:=A0w ev_lit
  have gen:∀ g,evK g (exA (nI 1) (.str []) (.atom 30) (.atom 31) (.atom 32) (.atom 33) .nilslice) (va 30) (nI 0) []=true→Ev PG g [tbP nm cl key uq lk,row,(Xe.lit v).e7.pv] (.tup [vV v,nI 0]):=fun g hg =>
   A02 hc hu hl hw (a:=⟨nI v.1,nI v.2.1,nI v.2.2.1, .str v.2.2.2,nI 0,nI 0,nI 0⟩) (b:=E7.zero) (p:=(0,0,0,[])) (q:=(0,0,0,[])) (r:=(0,0,0,[])) (z:=0) hg rfl rfl trivial rfl rfl rfl rfl rfl rfl
  obtain ⟨S,st,e1,e2,m⟩:=hx
  have h0:=m.k0
  have e:v.1=((v.1.toNat:Nat):Int):=by omega
  have hk2:v.1.toNat=k:=congrArg Prod.fst ht
  exact ⟨v,0,⟨gen _ hk.1,gen _ hk.2⟩, .inl ⟨rfl,⟨S,st,e1,e2,m⟩, .inr (by rw [e,hk2])⟩⟩
 | .col c,_,k,ht=>by
  by_cases hlt:c < nc
  ·have hr:(Xe.col c).ty ty nc=(ty c,0):=if_pos hlt
   rw [hr] at ht
   have:ty c=k:=congrArg Prod.fst ht
   subst this
   exact hcol c hlt
  ·have hr:(Xe.col c).ty ty nc=(0,4):=if_neg hlt
   rw [hr] at ht
   simp at ht
 | .un j a,hx,k,ht=>by
  have hb:=A2e (hB a hx.2)
  have hr:(Xe.un j a).ty ty nc=(match a.ty ty nc with|(k,0)=>Aep (3+j) [k]|(_,e)=>(0,e)):=rfl
  obtain ⟨⟨k1,e1⟩,hr1⟩:∃ p,a.ty ty nc=p:=⟨_,rfl⟩
  rw [hr1] at hb hr
  dsimp only at hb
  rw [ht] at hr
  match e1,hb,hr,hr1 with
  | 0,hb,hr,hr1 =>
   obtain ⟨v,e,h1,h2⟩:=A3o hB hcol a hx.2 k1 hr1
   exact A8o hc hu hl hw hx.1 hb.1 hr.symm h1 h2
  | e+1,hb,hr,hr1=>exact absurd (congrArg Prod.snd hr) (by simp)
 | .op i a b,hx,k,ht=>by
  have hba:=A2e (hB a hx.2.1)
  have hbb:=A2e (hB b hx.2.2)
  have hr:(Xe.op i a b).ty ty nc=(match a.ty ty nc with|(k,0)=>(match b.ty ty nc with|(l,0)=>Aep (6+i) [k,l]|(_,e)=>(0,e))|(_,e)=>(0,e)):=rfl
  obtain ⟨⟨k1,e1⟩,hr1⟩:∃ p,a.ty ty nc=p:=⟨_,rfl⟩
  obtain ⟨⟨k2,e2⟩,hr2⟩:∃ p,b.ty ty nc=p:=⟨_,rfl⟩
  rw [hr1] at hba
  rw [hr2] at hbb
  rw [hr1,hr2,ht] at hr
  dsimp only at hba hbb
  match e1,hba,hr,hr1 with
  | 0,hba,hr,hr1 =>
   match e2,hbb,hr,hr2 with
   | 0,hbb,hr,hr2 =>
    obtain ⟨v,e,h1,h2⟩:=A3o hB hcol a hx.2.1 k1 hr1
    obtain ⟨w,f,h3,h4⟩:=A3o hB hcol b hx.2.2 k2 hr2
    exact A9b hc hu hl hw hx.1 hba.1 hbb.1 hr.symm h1 h2 h3 h4
   | e+1,hbb,hr,hr2=>exact absurd (congrArg Prod.snd hr) (by simp)
  | e+1,hba,hr,hr1=>exact absurd (congrArg Prod.snd hr) (by simp)
end
def rowA (k:Nat):PV:=.slice 4 ((List.range k).map fun i=>va (60+4*i))
theorem A8j:(Am3 fun g=>(List.range 5).all fun k=>(List.range k).all fun c=>okR (.tup [va (60+4*c),nI 0]) (callF PG (fOrc noOwn []) 30 g [Amg k,rowA k,colX c] []))=true:=by kernel_rfl
noncomputable abbrev hoK (g:Nat) (r:PV) (fs:List Fact):Bool:=okR r (callF PG (fOrc noOwn (oI .eql (.atom 30) (nI 0) (.bool false)::fs)) 30 g [tbA, .atom 12,eA 30] [])
def hoR (m:Nat):PV:=.tup [.bool (m==2), .bool (m != 0),nI 0]
theorem A9x:((List.range 3).all fun m=>hoK A1c (hoR m) [evF A2k 30 (tv m) (nI 0)]&&hoK A1d (hoR m) [evF A2m 30 (tv m) (nI 0)])=true:=by kernel_rfl
theorem A9u:(hoK A1c (.tup [.bool false, .bool false, .atom 84]) (evF A2k 30 zV (.atom 84)::neF)&&hoK A1d (.tup [.bool false, .bool false, .atom 84]) (evF A2m 30 zV (.atom 84)::neF))=true:=by kernel_rfl
open Go Go.RowKit
open Go.Proofs.Ytglffgneikoeaaa.M
section
variable {nm:List UInt8} {ty:Nat→Int} {nn:Nat→Bool} {key:Nat} {uq lk:PV}
def ccN (nm:List UInt8) (ty:Nat→Int) (nn:Nat→Bool) (key:Nat) (uq lk:PV) (V:Nat→V4):List PV :=
 tcN nm ty nn key uq lk++(List.replicate 45 (nI 0)++(Aee (V 0)++(Aee (V 1)++(Aee (V 2)++Aee (V 3)))))
def A1i (k:Nat) (V:Nat→V4):PV:=.slice 4 ((List.range k).map fun i=>vV (V i))
theorem A5l (k:Nat) (V:Nat→V4):PV.pureL ((List.range k).map fun i=>vV (V i))=true:=by
 refine pureL_of fun p hp=>?_
 obtain ⟨i,_,rfl⟩:=List.mem_map.1 hp
 rfl
theorem A5i (k:Nat) (V:Nat→V4):Ad3 (A1i k V)=true:=by
 show (true&&(PV.pureL ((List.range k).map fun i=>vV (V i))&&true))=true
 rw [A5l];rfl
theorem A9e (hu:Ad3 uq=true) (hl:Ad3 lk=true) (V:Nat→V4):NuOk (nuL (ccN nm ty nn key uq lk V)):=by
 simp only [Ad3,Bool.and_eq_true] at hu hl
 refine nuL_okB ?_
 unfold ccN tcN
 rw [List.all_append]
 simp only [List.all_cons,List.all_nil,hu.1,hu.2.1,hl.1,hl.2.1]
 rfl
set_option maxRecDepth 20000 in
theorem A9c (hu:Ad3 uq=true) (hl:Ad3 lk=true) (V:Nat→V4) {k:Nat} (hk:1≤k∧k≤4) {c:Nat} (hc:c < k):VOk (Amh nm k ty nn key uq lk) (A1i k V) (Xe.col c).e7.pv (V c) 0:=by
 have h:=A0w A8j
 have hkm:k∈List.range 5:=by rw [List.mem_range];omega
 have hcm:c∈List.range k:=by rw [List.mem_range];exact hc
 have hk4:k=1∨k=2∨k=3∨k=4:=by omega
 have hc4:c=0∨c=1∨c=2∨c=3:=by omega
 have hsub:subD (nuL (ccN nm ty nn key uq lk V)) (Amg k)=Amh nm k ty nn key uq lk:=by rcases hk4 with rfl|rfl|rfl|rfl<;>rfl
 have hrow:subD (nuL (ccN nm ty nn key uq lk V)) (rowA k)=A1i k V:=by rcases hk4 with rfl|rfl|rfl|rfl<;>rfl
 have hpure:(Amh nm k ty nn key uq lk).pure=true:=A3j (nm:=nm) (key:=key) (A4l (ty:=ty) (nn:=nn) k) hu hl
 have hone:oneB (nuL (ccN nm ty nn key uq lk V)) (Amg k)=true:=by rcases hk4 with rfl|rfl|rfl|rfl<;>rfl
 have hone2:oneB (nuL (ccN nm ty nn key uq lk V)) (rowA k)=true:=by rcases hk4 with rfl|rfl|rfl|rfl<;>rfl
 have hrp:(A1i k V).pure=true:=A5l k V
 have hargs:([Amg k,rowA k,colX c].all fun p=>argB (nuL (ccN nm ty nn key uq lk V)) p&&p.shut)=true:=by
  have h1:argB (nuL (ccN nm ty nn key uq lk V)) (Amg k)=true:=by unfold argB;rw [hsub,hpure,hone];rfl
  have h2:argB (nuL (ccN nm ty nn key uq lk V)) (rowA k)=true:=by unfold argB;rw [hrow,hrp,hone2];rfl
  simp only [List.all_cons,List.all_nil,h1,h2]
  rfl
 have hres:subD (nuL (ccN nm ty nn key uq lk V)) (.tup [va (60+4*c),nI 0]) = .tup [vV (V c),nI 0]:=by rcases hc4 with rfl|rfl|rfl|rfl<;>rfl
 have gen:∀ g,okR (.tup [va (60+4*c),nI 0]) (callF PG (fOrc noOwn []) 30 g [Amg k,rowA k,colX c] [])=true→Ev PG g [Amh nm k ty nn key uq lk,A1i k V,(Xe.col c).e7.pv] (.tup [vV (V c),nI 0]):=fun g hg=>by
  have h:=Ev.facts (nu:=nuL (ccN nm ty nn key uq lk V)) (args:=[Amg k,rowA k,colX c]) (r:=.tup [va (60+4*c),nI 0]) prog_ok (A9e hu hl V) (okR_eq hg) trivial hargs (by rw [hres];rfl)
  rw [hres] at h
  simp only [List.map_cons,List.map_nil,hsub,hrow] at h
  exact h
 exact ⟨gen _ (List.all_eq_true.1 (List.all_eq_true.1 h.1 k hkm) c hcm),gen _ (List.all_eq_true.1 (List.all_eq_true.1 h.2 k hkm) c hcm)⟩
end
theorem A81 {ty:Int} (h:1≤ty∧ty≤5) {v:V4} (hv:A3p ty v):A0q ty.toNat v 0:=by
 rcases hv with rfl|⟨N,S,st,rfl,m⟩
 ·exact .inl ⟨rfl,A2x, .inl rfl⟩
 ·refine .inl ⟨rfl,⟨S,st,rfl,rfl,m⟩, .inr ?_⟩
  show ty=((ty.toNat:Nat):Int)
  omega
section
variable {nm:List UInt8} {cl:PV} {key:Int} {uq lk row:PV} (hc:Ad3 cl=true) (hu:Ad3 uq=true) (hl:Ad3 lk=true) (hw:Ad3 row=true)
include hc hu hl hw
set_option maxRecDepth 20000 in
theorem A3k {g:Nat} {r:PV} {fs:List Fact} (hk:hoK g r fs=true) {x:Xe} {z:Int} (hf:FactsOk PG (nuL (yN nm cl key uq lk row x.e7 E7.zero (0,0,0,[]) (0,0,0,[]) (0,0,0,[]) z)) fs) {R:PV} (hR:subD (nuL (yN nm cl key uq lk row x.e7 E7.zero (0,0,0,[]) (0,0,0,[]) (0,0,0,[]) z)) r=R) (hp:(R.pure&&R.shut2)=true) :
  Ev PG g [tbP nm cl key uq lk,row,x.e7.pv] R:=by
 have hkd:∃ k:Int,x.e7.k=nI k∧k≠0:=by
  cases x with
  | lit v=>exact ⟨1,rfl,by decide⟩
  | col c=>exact ⟨2,rfl,by decide⟩
  | un j a=>exact ⟨_,rfl,by omega⟩
  | op i a b=>exact ⟨_,rfl,by omega⟩
 obtain ⟨k,hk1,hk0⟩:=hkd
 have h:=Ev.facts (args:=[tbA, .atom 12,eA 30]) (r:=r) prog_ok (A6b (nm:=nm) (key:=key) hc hu hl hw (e7_ok x) rfl) (okR_eq hk)
  ⟨fCmp (a:=k) (b:=0) (c:=false) hk1 rfl rfl (by simp only [intP];simp [hk0]) (by decide) rfl,hf⟩ (A5v (r:=x.e7.pv) hc hu hl hw rfl rfl rfl (E7.pure (e7_ok x)) rfl rfl rfl) (by rw [hR];exact hp)
 rw [hR] at h
 exact h
theorem A7z {x:Xe} {k:Nat} (hk:k=0∨k=1) {v:V4} {e:Int} (h:VOk (tbP nm cl key uq lk) row x.e7.pv v e) (hr:A0q k v e) :
  (∃ m,m < 3∧v=tvV m∧e=0∧Ev PG A1c [tbP nm cl key uq lk,row,x.e7.pv] (hoR m)∧Ev PG A1d [tbP nm cl key uq lk,row,x.e7.pv] (hoR m)) ∨
  ((e=5∨e=10)∧v=(0,0,0,[])∧Ev PG A1c [tbP nm cl key uq lk,row,x.e7.pv] (.tup [.bool false, .bool false,nI e])∧Ev PG A1d [tbP nm cl key uq lk,row,x.e7.pv] (.tup [.bool false, .bool false,nI e])):=by
 rcases hr with ⟨rfl,hm,hkd⟩|⟨he,rfl⟩
 ·obtain ⟨m,hm3,rfl⟩:=A3n hm (by omega)
  have hk:=List.all_eq_true.1 A9x m (by rw [List.mem_range];exact hm3)
  rw [Bool.and_eq_true] at hk
  have h1:=h.ev
  have h2:=h.rf
  rw [A1f] at h1 h2
  have hsub:∀ (nu:Nat→PV) m,subD nu (tv m)=tv m:=fun nu m=>by match m with|0=>rfl|1=>rfl|_+2=>rfl
  have hone:∀ (nu:Nat→PV) m,oneB nu (.tup [tv m,nI 0])=true:=fun nu m=>by match m with|0=>rfl|1=>rfl|_+2=>rfl
  refine .inl ⟨m,hm3,rfl,rfl,A3k hc hu hl hw (z:=0) hk.1 ⟨fprim h1 rfl (by show PV.tup [subD _ (tv m),nI 0]=_;rw [hsub]) (hone _ m),trivial⟩ rfl rfl,A3k hc hu hl hw (z:=0) hk.2 ⟨fprim h2 rfl (by show PV.tup [subD _ (tv m),nI 0]=_;rw [hsub]) (hone _ m),trivial⟩ rfl rfl⟩
 ·have hk:=A9u
  rw [Bool.and_eq_true] at hk
  exact .inr ⟨he,rfl,A3k hc hu hl hw (z:=e) hk.1 ⟨fprim h.ev rfl rfl rfl,A2w rfl (by omega)⟩ rfl rfl,A3k hc hu hl hw (z:=e) hk.2 ⟨fprim h.rf rfl rfl rfl,A2w rfl (by omega)⟩ rfl rfl⟩
end
open Go Go.RowKit
open Go.Proofs.Ytglffgneikoeaaa.M
theorem A5j {v:V4} (h:MV v):Ev PG A5h [vV v] (.bool true):=by
 obtain ⟨S,st,h1,h2,m⟩:=h
 refine Ev.ofCalls (fn_of _ (by kernel_rfl)) fun X w vs a1 a2 a3=>?_
 obtain ⟨u,rfl,r1⟩:=vs_one a1 a2
 rw [A06 r1]
 have hb:bsA v=st:=by unfold bsA;rw [h2]
 refine (Amj.calls 60 v.1 v.2.1 v.2.2.1 (bsA v) true w (by rw [A47 60 _ _ _ _ (by decide),h1,hb,m.r])).mono ?_
 rintro e w' ⟨he,bel⟩
 exact ⟨⟨_,he, .bool _⟩,bel⟩
noncomputable abbrev laK (fs:List Fact):Bool:=okR (.bool true) (callF PG (fOrc noOwn fs) 60 A4b [.atom 15, .atom 16, .atom 17, .atom 18, .atom 19] [])
def laF (b:Bool):List Fact:=[.prim A4f [] (.bool true), .prim f_l3_Few [.atom 19] (.bool b)]
def laG (b:Bool):List Fact:=[.op (.len ty_string) [.atom 18] (.atom 20),oI .gtr (.atom 20) (nI 60) (.bool b)]
def laH (b:Bool):List Fact:=[.op (.len ty_sl_l3_Raw) [.atom 19] (.atom 21),oI .eql (.atom 21) (nI 0) (.bool b)]
def laT (k e:Nat):List Fact:=[.prim f_l3_Table [.atom 15, .atom 16, .nilslice] tbA, .prim f_l3_One [.atom 19] (eA 30), .prim Amx [tbA,eA 30] (.tup [nI k,nI e]), .prim Amy [tbA,eA 30] (.tup [nI k,nI e])]
def rowB (c:Nat):PV:=.slice 4 ((List.range c).map fun i=>va (90+4*i))
def laV (c:Nat) (V:PV) (g:Int):List Fact:=[.row A2v [tbA, .atom 17, .atom 18] ty_api_Value 4 c ((List.range c).flatMap fun i=>mk4 (90+4*i)), .prim A2k [tbA,rowB c,eA 30] (.tup [V,nI g]), .prim A2m [tbA,rowB c,eA 30] (.tup [V,nI g])]
def laR (V:PV):List Fact:=[.op (.bin .neq ty_api_Value) [V,V] (.bool false), .prim A5h [V] (.bool true)]
def laO (c:Nat) (R:PV):List Fact:=[.prim A1c [tbA,rowB c,eA 30] R, .prim A1d [tbA,rowB c,eA 30] R]
def vF (k:Nat):PV:=.agg [nI k, .atom 1000, .atom 1001, .atom 1002]
def laB:List Fact:=laF true++(laG false++laH false)
theorem la_k0:(laK (laF false)&&(laK (laF true++laG true)&&laK (laF true++(laG false++laH true))))=true:=by kernel_rfl
theorem la_k1:((List.range 2).all fun e=>laK (laB++laT 0 (4+e)))=true:=by kernel_rfl
theorem la_k2:((List.range 4).all fun c=>(List.range 2).all fun e=>(List.range 4).all fun k=>laK (laB++(laT (2+k) 0++laV (c+1) zV (5+5*e:Nat))))=true:=by kernel_rfl
theorem la_k3:((List.range 4).all fun c=>(List.range 2).all fun e=>(List.range 2).all fun k=>laK (laB++(laT k 0++(laV (c+1) zV (5+5*e:Nat)++laO (c+1) (.tup [.bool false, .bool false,nI (5+5*e:Nat)])))))=true:=by kernel_rfl
theorem A9w:((List.range 4).all fun c=>(List.range 4).all fun k=>bl fun z=>laK (laB++(laT (2+k) 0++(laV (c+1) (vF (if z then 0 else 2+k)) 0++laR (vF (if z then 0 else 2+k))))))=true:=by kernel_rfl
theorem A9q:((List.range 4).all fun c=>(List.range 2).all fun k=>(List.range (1+2*k)).all fun m=>laK (laB++(laT k 0++(laV (c+1) (tv m) 0++(laR (tv m)++laO (c+1) (hoR m))))))=true:=by kernel_rfl
open Go Go.RowKit
def lwN (nm:List UInt8) (cl:PV) (key:Int) (uq lk:PV) (n:Int) (nsv msv:PV) (s:List UInt8) (nl:Nat) (l:List RawT) (x:E7) (V:Nat→V4):List PV :=
 [.str nm,cl,nI key,uq,nI 0, .str [],nI 0,nI 0,nI 0, .str [], .nilslice,lk,nI 0,nI 0,nI 0,nI n,nsv,msv, .str s,rawsP nl l,nI s.length,nI l.length,nI 0,nI 0,nI 0,nI 0,nI 0,nI 0,nI 0,nI 0]++(x.L++(List.replicate 53 (nI 0)++(Aee (V 0)++(Aee (V 1)++(Aee (V 2)++Aee (V 3))))))
def lwM (v:V4):List PV:=[nI v.2.1,nI v.2.2.1, .str v.2.2.2]
abbrev A2p (p:PV):Prop:=(p.clean&&p.pure)=true∧p.one=true
section
variable {nm:List UInt8} {cl:PV} {key:Int} {uq lk:PV} {n:Int} {nsv msv:PV} {s:List UInt8} {nl:Nat} {l:List RawT} {x:E7} {V:Nat→V4} {v:V4}
theorem A6f (hc:Ad3 cl=true) (hu:Ad3 uq=true) (hl:Ad3 lk=true) (h1:A2p nsv) (h2:A2p msv) (hx:x.ok=true):NuOk (nuFl (lwN nm cl key uq lk n nsv msv s nl l x V) (lwM v)):=by
 have hr:=raws_good nl l
 simp only [Ad3,Bool.and_eq_true] at hc hu hl
 refine nuFl_okB ?_ rfl
 unfold lwN
 rw [List.all_append,List.all_append,show (x.L.all fun p=>p.clean&&p.pure)=true from hx]
 simp only [List.all_cons,hc.1,hc.2.1,hu.1,hu.2.1,hl.1,hl.2.1,h1.1,h2.1,hr.1,hr.2.1]
 rfl
theorem A3l (h1:A2p nsv) (h2:A2p msv) {nu:Nat→PV} (e0:nu 15=nI n) (e1:nu 16=nsv) (e2:nu 17=msv) (e3:nu 18 = .str s) (e4:nu 19=rawsP nl l):([PV.atom 15, .atom 16, .atom 17, .atom 18, .atom 19].all fun p=>argB nu p&&p.shut)=true:=by
 have hr:=raws_good nl l
 have a1:=h1.1
 have a2:=h2.1
 simp only [Bool.and_eq_true] at a1 a2
 simp only [List.all_cons,List.all_nil,argB,subD,oneB,e0,e1,e2,e3,e4,a1.2,a2.2,h1.2,h2.2,hr.2.1,hr.2.2]
 rfl
end
theorem A4p {nu:Nat→PV} {x r:PV} {s:List UInt8} (h1:subD nu x = .str s) (h2:subD nu r=nI s.length) (h3:oneB nu r=true):FactOk PG nu (.op (.len ty_string) [x] r):=by
 refine ⟨?_,h3⟩
 show lenP PG ty_string (subD nu x)=some (subD nu r)
 rw [h1,h2]
 unfold lenP
 rw [u_string]
def neG4 (b0 b1 b2 b3:Bool):Option PV:=match (match b0 with|true=>(match b1 with|true=>(match b2 with|true=>(match b3 with|true=>some true|false=>some false)|false=>some false)|false=>some false)|false=>some false:Option Bool) with|some b=>some (PV.bool !b)|none=>none
theorem neV_k (a b c a' b' c':Int) (s s':List UInt8):binP PG .neq ty_api_Value (.agg [nI a,nI b,nI c, .str s]) (.agg [nI a',nI b',nI c', .str s'])=neG4 (a==a') (b==b') (c==c') (s==s'):=by kernel_rfl
theorem A5k (v:V4):binP PG .neq ty_api_Value (vV v) (vV v)=some (.bool false):=by
 unfold vV Aee
 rw [neV_k]
 simp [neG4]
def A93 (tP rP xP:PV) (v:V4) (e:Int):Prop :=
 (∃ m,m < 3∧v=tvV m∧e=0∧Ev PG A1c [tP,rP,xP] (hoR m)∧Ev PG A1d [tP,rP,xP] (hoR m)) ∨
 ((e=5∨e=10)∧v=(0,0,0,[])∧Ev PG A1c [tP,rP,xP] (.tup [.bool false, .bool false,nI e])∧Ev PG A1d [tP,rP,xP] (.tup [.bool false, .bool false,nI e]))
theorem A4m (nu:Nat→PV):∀ m,subD nu (tv m)=tv m
 | 0=>rfl
 | 1=>rfl
 | _+2=>rfl
theorem A8v (nu:Nat→PV):∀ m,oneB nu (.tup [tv m,nI 0])=true
 | 0=>rfl
 | 1=>rfl
 | _+2=>rfl
theorem A9f:∀ m,binP PG .neq ty_api_Value (tv m) (tv m)=some (.bool false):=fun m=>by rw [← A1f];exact A5k _
section
variable {nu:V4→Nat→PV} {G:Prop} {k kx:Nat} {tP rP xP:PV} (hk:1≤k∧k≤4) (done:∀ v fs,laK fs=true→FactsOk PG (nu v) fs→G) (hA:∀ v,FactsOk PG (nu v) laB) (hB:∀ v,FactsOk PG (nu v) (laT kx 0))
 (hrow:∀ v,FactOk PG (nu v) (.row A2v [tbA, .atom 17, .atom 18] ty_api_Value 4 k ((List.range k).flatMap fun i=>mk4 (90+4*i)))) (hE:∀ v,[tbA,rowB k,eA 30].map (subD (nu v))=[tP,rP,xP])
include hk done hA hB hrow hE
omit hk done hA hB in
theorem A3s {w v:V4} {e:Int} (hv:VOk tP rP xP v e) {P:PV} {g:Int} (h1:subD (nu w) (.tup [P,nI g]) = .tup [vV v,nI e]) (h2:oneB (nu w) (.tup [P,nI g])=true):FactsOk PG (nu w) (laV k P g) :=
 ⟨hrow w,fprim hv.ev (hE w) h1 h2,fprim hv.rf (hE w) h1 h2,trivial⟩
omit hk done hA hB hrow in
theorem A6c {w:V4} {R Q:PV} (h1:Ev PG A1c [tP,rP,xP] Q) (h2:Ev PG A1d [tP,rP,xP] Q) (h3:subD (nu w) R=Q) (h4:oneB (nu w) R=true):FactsOk PG (nu w) (laO k R) :=
 ⟨fprim h1 (hE w) h3 h4,fprim h2 (hE w) h3 h4,trivial⟩
set_option maxRecDepth 20000 in
theorem A9k (hkx:kx=0∨kx=1) {v:V4} {e:Int} (hv:VOk tP rP xP v e) (hr:A0q kx v e) (hh:A93 tP rP xP v e):G:=by
 have hkm:k - 1∈List.range 4:=by rw [List.mem_range];omega
 have hk1:k - 1+1=k:=by omega
 rcases hh with ⟨m,hm3,hvm,rfl,o1,o2⟩|⟨he,hvz,o1,o2⟩
 ·have hm:m < 1+2*kx:=by
   rcases hkx with rfl|rfl
   ·rcases hr with ⟨_,_,h3⟩|⟨h3,_⟩
    ·rw [hvm] at h3
     match m,h3 with
     | 0,_=>decide
     | 1,h3=>exact absurd h3 (by decide)
     | m+2,h3=>exact absurd h3 (by show ¬ ((1:Int)=0∨(1:Int)=((0:Nat):Int));decide)
    ·omega
   ·omega
  have hkq:=List.all_eq_true.1 (List.all_eq_true.1 (List.all_eq_true.1 A9q _ hkm) kx (by rw [List.mem_range];omega)) m (by rw [List.mem_range];exact hm)
  rw [hk1] at hkq
  have hrt:=A5j (A2z m)
  rw [A1f] at hrt
  refine done (0,0,0,[]) _ hkq (FactsOk.append (hA _) (FactsOk.append (hB _) (FactsOk.append (A3s hrow hE hv (by show PV.tup [subD _ (tv m),nI 0]=_;rw [A4m,hvm,A1f]) (A8v _ m)) (FactsOk.append ⟨⟨?_,rfl⟩,fprim hrt (by show [subD _ (tv m)]=_;rw [A4m]) rfl rfl,trivial⟩ (A6c hE o1 o2 rfl rfl)))))
  show binP PG .neq ty_api_Value (subD _ (tv m)) (subD _ (tv m))=some (.bool false)
  rw [A4m]
  exact A9f m
 ·obtain ⟨f,hf2,rfl⟩:∃ f:Nat,f < 2∧e=(5+5*f:Nat):=by
   rcases he with rfl|rfl
   ·exact ⟨0,by decide,rfl⟩
   ·exact ⟨1,by decide,rfl⟩
  have hkq:=List.all_eq_true.1 (List.all_eq_true.1 (List.all_eq_true.1 la_k3 _ hkm) f (by rw [List.mem_range];exact hf2)) kx (by rw [List.mem_range];omega)
  rw [hk1] at hkq
  exact done (0,0,0,[]) _ hkq (FactsOk.append (hA _) (FactsOk.append (hB _) (FactsOk.append (A3s hrow hE hv (by rw [hvz];rfl) rfl) (A6c hE o1 o2 rfl rfl))))
set_option maxRecDepth 20000 in
theorem A8u {j:Nat} (hj:j < 4) (hkx:kx=2+j) (hvF:∀ (w:V4) (i:Nat),subD (nu w) (vF i) = .agg [nI i,nI w.2.1,nI w.2.2.1, .str w.2.2.2]) {v:V4} {e:Int} (hv:VOk tP rP xP v e) (hr:A0q kx v e):G:=by
 subst hkx
 have hkm:k - 1∈List.range 4:=by rw [List.mem_range];omega
 have hk1:k - 1+1=k:=by omega
 have hjm:j∈List.range 4:=by rw [List.mem_range];exact hj
 rcases hr with ⟨rfl,hmv,hkd⟩|⟨he,hvz⟩
 ·obtain ⟨z,hz⟩:∃ z:Bool,v.1=((if z then 0 else 2+j:Nat):Int):=by
   rcases hkd with h|h
   ·exact ⟨true,h⟩
   ·exact ⟨false,h⟩
  have hkq:=bl_all (List.all_eq_true.1 (List.all_eq_true.1 A9w _ hkm) j hjm) z
  rw [hk1] at hkq
  have hvs:subD (nu v) (vF (if z then 0 else 2+j))=vV v:=by
   rw [hvF,← hz];rfl
  refine done v _ hkq (FactsOk.append (hA _) (FactsOk.append (hB _) (FactsOk.append (A3s hrow hE hv (by show PV.tup [subD _ (vF _),nI 0]=_;rw [hvs]) rfl) ⟨⟨?_,rfl⟩,fprim (A5j hmv) (by show [subD _ (vF _)]=_;rw [hvs]) rfl rfl,trivial⟩)))
  show binP PG .neq ty_api_Value (subD _ (vF _)) (subD _ (vF _))=some (.bool false)
  rw [hvs]
  exact A5k v
 ·obtain ⟨f,hf2,rfl⟩:∃ f:Nat,f < 2∧e=(5+5*f:Nat):=by
   rcases he with rfl|rfl
   ·exact ⟨0,by decide,rfl⟩
   ·exact ⟨1,by decide,rfl⟩
  have hkq:=List.all_eq_true.1 (List.all_eq_true.1 (List.all_eq_true.1 la_k2 _ hkm) f (by rw [List.mem_range];exact hf2)) j hjm
  rw [hk1] at hkq
  exact done (0,0,0,[]) _ hkq (FactsOk.append (hA _) (FactsOk.append (hB _) (A3s hrow hE hv (by rw [hvz];rfl) rfl)))
end
def lwU (nm:List UInt8) (ty:Nat→Int) (nn:Nat→Bool) (key:Nat) (uq lk:PV) (n:Int) (nsv msv:PV) (s:List UInt8) (nl:Nat) (l:List RawT) (x:E7) (V:Nat→V4) (k:Nat) (v:V4):Nat→PV:=nuFl (lwN nm (.slice 3 ((List.range k).map (Am2 ty nn))) key uq lk n nsv msv s nl l x V) (lwM v)
set_option maxRecDepth 40000 in
set_option maxHeartbeats 2000000 in
theorem evalAll_ev {nsv msv:PV} {ns ms:List Int} (hns:nsv = .slice 1 (ns.map (.int .i64))∨(nsv = .nilslice∧ns=[])) (hms:msv = .slice 1 (ms.map (.int .i64))∨(msv = .nilslice∧ms=[])) {nl:Nat} {l:List RawT} (hn:nlOk nl l) (ho:RawT.oks l) (n:Int) (b:ByteArray) :
  Ev PG A4b [nI n,nsv,msv, .str b.data.toList,rawsP nl l] (.bool true):=by
 obtain ⟨s,hs⟩:∃ s,s=b.data.toList:=⟨_,rfl⟩
 rw [← hs]
 have g1:A2p nsv:=ints_good hns
 have g2:A2p msv:=ints_good hms
 have hfew:=few_ev nl l hn ho
 have h0:=la_k0
 simp only [Bool.and_eq_true] at h0
 obtain ⟨q1,q2,q3⟩:=h0
 have zN:=A6f (nm:=[]) (cl:=.nilslice) (key:=0) (uq:=.nilslice) (lk:=.nilslice) (n:=n) (s:=s) (nl:=nl) (l:=l) (x:=E7.zero) (V:=fun _=>(0,0,0,[])) (v:=(0,0,0,[])) rfl rfl rfl g1 g2 rfl
 cases hf:fewB l with
 | false =>
  rw [hf] at hfew
  exact Ev.facts (args:=[.atom 15, .atom 16, .atom 17, .atom 18, .atom 19]) (r:=.bool true) prog_ok zN (okR_eq q1) ⟨fprim A3g rfl rfl rfl,fprim hfew rfl rfl rfl,trivial⟩ (A3l (n:=n) (s:=s) (nl:=nl) (l:=l) g1 g2 rfl rfl rfl rfl rfl) rfl
 | true =>
  rw [hf] at hfew
  by_cases h60:(s.length:Int) > 60
  ·exact Ev.facts (args:=[.atom 15, .atom 16, .atom 17, .atom 18, .atom 19]) (r:=.bool true) prog_ok zN (okR_eq q2) ⟨fprim A3g rfl rfl rfl,fprim hfew rfl rfl rfl,A4p rfl rfl rfl,fCmp (a:=s.length) (b:=60) (c:=true) rfl rfl rfl (by simp only [intP];rw [decide_eq_true h60]) (by decide) rfl,trivial⟩ (A3l (n:=n) (s:=s) (nl:=nl) (l:=l) g1 g2 rfl rfl rfl rfl rfl) rfl
  by_cases hl0:l=[]
  ·have hll:(l.length:Int)=0:=by rw [hl0];rfl
   exact Ev.facts (args:=[.atom 15, .atom 16, .atom 17, .atom 18, .atom 19]) (r:=.bool true) prog_ok zN (okR_eq q3) ⟨fprim A3g rfl rfl rfl,fprim hfew rfl rfl rfl,A4p rfl rfl rfl,fCmp (a:=s.length) (b:=60) (c:=false) rfl rfl rfl (by simp only [intP];rw [decide_eq_false h60]) (by decide) rfl,
    ⟨rawLen_ok hn,rfl⟩,fCmp (a:=l.length) (b:=0) (c:=true) rfl rfl rfl (by simp only [intP];simp [hll]) (by decide) rfl,trivial⟩ (A3l (n:=n) (s:=s) (nl:=nl) (l:=l) g1 g2 rfl rfl rfl rfl rfl) rfl
  obtain ⟨k,key,nm,ty,nn,uq,lk,hk,hkey,hty,hu,hlk,htab⟩:=table_ev n hns
  obtain ⟨x,hx,hone⟩:=one_ev hn ho hf hl0
  obtain ⟨V,hV,hrow⟩:=A8a hms s nm (by omega) k hk ty nn hty key hu hlk
  have hcg:=A4l (ty:=ty) (nn:=nn) k
  have hcolT:∀ c,c < 6→A3z (Amh nm k ty nn key uq lk) (Xe.col c).e7.pv ((Xe.col c).ty (fun i=>(ty i).toNat) k)∧tyB ((Xe.col c).ty (fun i=>(ty i).toNat) k)=true:=fun c hc=>A8d hu hlk hty hk hc
  have hT:=fun (y:Xe) (hy:y.wf)=>A3u (nm:=nm) (cl:=.slice 3 ((List.range k).map (Am2 ty nn))) (key:=key) (ty:=fun i=>(ty i).toNat) (nc:=k) hcg hu hlk hcolT y hy
  obtain ⟨⟨hty1,hty2⟩,htb⟩:=hT x hx
  obtain ⟨⟨kx,ex⟩,hxt⟩:∃ p,x.ty (fun i=>(ty i).toNat) k=p:=⟨_,rfl⟩
  have htb':=A2e htb
  rw [hxt] at hty1 hty2 htb'
  dsimp only at hty1 hty2 htb'
  have hk4:k=1∨k=2∨k=3∨k=4:=by omega
  have hllen:l.length≠0:=fun h=>hl0 (List.length_eq_zero_iff.1 h)
  have hNu:=fun v=>A6f (nm:=nm) (cl:=.slice 3 ((List.range k).map (Am2 ty nn))) (key:=key) (uq:=uq) (lk:=lk) (n:=n) (s:=s) (nl:=nl) (l:=l) (x:=x.e7) (V:=V) (v:=v) hcg hu hlk g1 g2 (e7_ok x)
  have hA:∀ v,FactsOk PG (lwU nm ty nn key uq lk n nsv msv s nl l x.e7 V k v) laB:=fun v=>⟨fprim A3g rfl rfl rfl,fprim hfew rfl rfl rfl,A4p rfl rfl rfl,fCmp (a:=s.length) (b:=60) (c:=false) rfl rfl rfl (by simp only [intP];rw [decide_eq_false h60]) (by decide) rfl,
    ⟨rawLen_ok hn,rfl⟩,fCmp (a:=l.length) (b:=0) (c:=false) rfl rfl rfl (by simp only [intP];simp [hllen]) (by decide) rfl,trivial⟩
  have hB:∀ v,FactsOk PG (lwU nm ty nn key uq lk n nsv msv s nl l x.e7 V k v) (laT kx ex):=fun v=>⟨fprim htab rfl rfl rfl,fprim hone rfl rfl rfl,fprim hty1 rfl rfl rfl,fprim hty2 rfl rfl rfl,trivial⟩
  have hargs:=fun v=>A3l (nu:=lwU nm ty nn key uq lk n nsv msv s nl l x.e7 V k v) (n:=n) (s:=s) (nl:=nl) (l:=l) g1 g2 rfl rfl rfl rfl rfl
  have done:∀ v fs,laK fs=true→FactsOk PG (lwU nm ty nn key uq lk n nsv msv s nl l x.e7 V k v) fs→Ev PG A4b [nI n,nsv,msv, .str s,rawsP nl l] (.bool true):=fun v fs h1 h2 =>
   Ev.facts (args:=[.atom 15, .atom 16, .atom 17, .atom 18, .atom 19]) (r:=.bool true) prog_ok (hNu v) (okR_eq h1) h2 (hargs v) rfl
  rcases htb'.2 with rfl|⟨h45,rfl⟩
  ·have hcolV:∀ c,c < k→∃ v e,VOk (Amh nm k ty nn key uq lk) (A1i k V) (Xe.col c).e7.pv v e∧A0q ((fun i=>(ty i).toNat) c) v e:=fun c hc=>⟨V c,0,A9c hu hlk V hk hc,A81 (hty c (by omega)) (hV c hc)⟩
   obtain ⟨v,e,hv,hr⟩:=A3o (nm:=nm) (cl:=.slice 3 ((List.range k).map (Am2 ty nn))) (key:=key) hcg hu hlk (A5i k V) (fun y hy=>(hT y hy).2) hcolV x hx kx hxt
   have hcell:∀ w,((List.range k).flatMap fun i=>mk4 (90+4*i)).map (subD (lwU nm ty nn key uq lk n nsv msv s nl l x.e7 V k w))=(List.range k).flatMap fun i=>Aee (V i):=fun w=>by rcases hk4 with rfl|rfl|rfl|rfl<;>rfl
   have hE:∀ w,[tbA,rowB k,eA 30].map (subD (lwU nm ty nn key uq lk n nsv msv s nl l x.e7 V k w))=[Amh nm k ty nn key uq lk,A1i k V,x.e7.pv]:=fun w=>by
    have:subD (lwU nm ty nn key uq lk n nsv msv s nl l x.e7 V k w) (rowB k)=A1i k V:=by rcases hk4 with rfl|rfl|rfl|rfl<;>rfl
    show [_,subD _ (rowB k),_]=_
    rw [this];rfl
   have hRow:∀ w,FactOk PG (lwU nm ty nn key uq lk n nsv msv s nl l x.e7 V k w) (.row A2v [tbA, .atom 17, .atom 18] ty_api_Value 4 k ((List.range k).flatMap fun i=>mk4 (90+4*i))):=fun w=>by
    refine ⟨?_,by rcases hk4 with rfl|rfl|rfl|rfl<;>rfl⟩
    rw [hcell w]
    exact hrow
   by_cases hkx:kx=0∨kx=1
   ·exact A9k (nu:=lwU nm ty nn key uq lk n nsv msv s nl l x.e7 V k) hk done hA hB hRow hE hkx hv hr (A7z (nm:=nm) (cl:=.slice 3 ((List.range k).map (Am2 ty nn))) (key:=key) hcg hu hlk (A5i k V) hkx hv hr)
   ·exact A8u (nu:=lwU nm ty nn key uq lk n nsv msv s nl l x.e7 V k) (j:=kx - 2) hk done hA hB hRow hE (by omega) (by omega) (fun w i=>rfl) hv hr
  ·obtain ⟨f,hf2,rfl⟩:∃ f:Nat,f < 2∧ex=4+f:=⟨ex - 4,by omega,by omega⟩
   have hkq:=List.all_eq_true.1 la_k1 f (by rw [List.mem_range];exact hf2)
   exact done (0,0,0,[]) _ hkq (FactsOk.append (hA _) (hB _))
end Go.Proofs.Ytglffgneikoeaaa.Den
