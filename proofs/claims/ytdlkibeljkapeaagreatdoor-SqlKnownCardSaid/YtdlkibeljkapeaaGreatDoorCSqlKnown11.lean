-- Written by drive.py and pack.py (programs of this proof's own) through the kit's printer; not trusted: Lean checks it.
import Derived.Test.YtdlkibeljkapeaaGreatDoorCSqlKnown8
import Derived.Test.YtdlkibeljkapeaaGreatDoorCSqlKnown9
import Derived.Test.YtdlkibeljkapeaaGreatDoorCSqlKnown10
namespace Go.Proofs.YtdlkibeljkapeaaGreatDoor.Den
open Go Go.RowKit
theorem Dq (s:List UInt8) (hs:s.length < 4294967281) (nu:Nat→PV):FactOk PG nu (Ht s):=fprim (He s [46] hs) rfl rfl rfl
theorem C7 (n:Int) (l:List UInt8) (h : -9223372036854775808≤n∧n≤9223372036854775807) (e:l=Lib.itoa n) (nu:Nat→PV):FactOk PG nu (Hh (n,l)):=by
 subst e
 exact fprim (E5 n h) rfl rfl rfl
theorem Q8:bs "it''s" = Lib.replaceAll (bs "it's") [39] [39,39]:=by kernel_rfl
theorem i1:([45,53]:List UInt8)=Lib.itoa (-5):=by kernel_rfl
theorem i2:([49]:List UInt8)=Lib.itoa 1:=by kernel_rfl
theorem i3:([50]:List UInt8)=Lib.itoa 2:=by kernel_rfl
theorem i4:([53]:List UInt8)=Lib.itoa 5:=by kernel_rfl
theorem i5:([45,49,53]:List UInt8)=Lib.itoa (-15):=by kernel_rfl
theorem i6:([45,57,50,50,51,51,55,50,48,51,54,56,53,52,55,55,53,56,48,56]:List UInt8)=Lib.itoa (-9223372036854775808):=by kernel_rfl
theorem i7:([45,49]:List UInt8)=Lib.itoa (-1):=by kernel_rfl
theorem Q7 (nu:Nat→PV):FactsOk PG nu sF:=by
 refine FactsOk.append ⟨fprim Jq rfl rfl rfl,fprim G1 rfl rfl rfl,trivial⟩ (FactsOk.append ?_ (FactsOk.append ?_ ⟨?_,trivial⟩))
 ·exact ⟨Dq _ (by decide) nu,Dq _ (by decide) nu,Dq _ (by decide) nu,Dq _ (by decide) nu,Dq _ (by decide) nu,Dq _ (by decide) nu,trivial⟩
 ·exact ⟨C7 _ _ (by decide) i1 nu,C7 _ _ (by decide) i2 nu,C7 _ _ (by decide) i3 nu,C7 _ _ (by decide) i4 nu,C7 _ _ (by decide) i5 nu,C7 _ _ (by decide) i6 nu,C7 _ _ (by decide) i7 nu,trivial⟩
 ·exact fprim (If (bs "it's") [39] [39,39] (by decide) (by decide) (by decide +kernel)) rfl (congrArg PV.str Q8) rfl
theorem I8 {nm:List UInt8} (h1:nm.length≤100) {vs:List (V4 × List UInt8)} (h0:vs≠[]) (h5:vs.length≤1000) (hv:∀ v∈vs,Ev PG Aq [Den.vP v.1] (.str v.2)∧v.2.length≤60000∧v.2≠[]) (hvl:(Az vs).length≤5000):Ev PG Bt [Ap 4 Au nm [] [] (rowP vs) E7.zero E7.zero] (.str (kw "insert into " ++ nm++kw " values (" ++ Az vs++kw ")")):=by
 have k1:(kw "insert into ").length=12:=by decide
 have k2:(kw " values (").length=9:=by decide
 have k3:(kw ")").length=1:=by decide
 have hr:=Nn h0 (by omega) (fun v h=>⟨(hv v h).1,(hv v h).2.1⟩)
 rw [L8 vs (fun v h=>(hv v h).2.2) h0] at hr
 have hp:(rowP vs).pure=true:=Nz vs
 have hnu:NuOk (nuL [nI 0,nI 0, .str nm,nI 0,nI 0,rowP vs,nI 0,nI 0,nI 0,nI 0, .str (kw "insert into " ++ nm), .str (kw "insert into " ++ nm++kw " values ("), .str (Az vs), .str (kw "insert into " ++ nm++kw " values (" ++ Az vs), .str (kw "insert into " ++ nm++kw " values (" ++ Az vs++kw ")")]) :=
  nuL_okB (by simp only [List.all_cons,hp];rfl)
 refine Ev.facts (args:=[Dv (nI 4) Au (.atom 2) (.str []) (.str []) (.atom 5) E7.zero.L E7.zero.L]) (r:=.atom 14) prog_ok hnu (okR_eq Oe)
  ⟨Ac (l:=kw "insert into ") (m:=nm) rfl rfl (by omega) rfl rfl,Ac (l:=kw "insert into " ++ nm) (m:=kw " values (") rfl rfl (by simp only [List.length_append];omega) rfl rfl,Dy hr rfl rfl rfl rfl rfl,
   Ac (l:=kw "insert into " ++ nm++kw " values (") (m:=Az vs) rfl rfl (by simp only [List.length_append];omega) rfl rfl,Ac (l:=kw "insert into " ++ nm++kw " values (" ++ Az vs) (m:=kw ")") rfl rfl (by simp only [List.length_append];omega) rfl rfl,trivial⟩ ?_ rfl
 refine Jj (k:=4) (T:=Au) (nm:=nm) (col:=[]) (dst:=[]) (row:=rowP vs) (e:=E7.zero) (w:=E7.zero) rfl ?_ rfl rfl
 show PV.pureL (nI 4::(Au++([.str nm, .str [], .str [],rowP vs]++(E7.zero.L++E7.zero.L))))=true
 simp only [PV.pureL,Gv,hp]
 rfl
theorem J5 (n:Int) (t:List UInt8) (hn : -9223372036854775808≤n∧n≤9223372036854775807) (h:Ab n++Aa n 0=t):Ev PG Aq [vP (2,n,0,[])] (.str t):=by
 rw [← h];exact Jd hn
theorem Pi:Ev PG Bt [Ap 4 Au (bs "t") [] [] (rowP ks6) E7.zero E7.zero] (.str (bs "insert into t values (1, -1.5, 'it''s', x'00ff', null, true)")):=by
 have h:=I8 (nm:=bs "t") (by decide) (vs:=ks6) (by decide) (by decide) (fun v hv=>by
  simp only [ks6,List.mem_cons,List.not_mem_nil,or_false] at hv
  rcases hv with rfl|rfl|rfl|rfl|rfl|rfl
  ·exact ⟨J5 1 _ (by decide) (by kernel_rfl),by decide,by decide⟩
  ·have e:Ab (-15)++Aa (-15) 1++46::Dk (-15) 1=bs "-1.5" := by kernel_rfl
   refine ⟨?_,by decide,by decide⟩
   rw [← e];exact N6 (by decide) (by decide)
  ·have e:(39:UInt8)::(An (bs "it's")++[39])=bs "'it''s'" := by decide
   refine ⟨?_,by decide,by decide⟩
   rw [← e];exact Nb (by decide)
  ·have e:([120,39]:List UInt8)++hx [0,255]++[39]=bs "x'00ff'" := by decide
   refine ⟨?_,by decide,by decide⟩
   rw [← e];exact Md (by decide)
  ·have hk:=Uj
   rw [Bool.and_eq_true] at hk
   exact ⟨I3 hk.1,by decide,by decide⟩
  ·have hk:=Rj
   rw [Bool.and_eq_true] at hk
   exact ⟨I3 hk.1,by decide,by decide⟩) (by decide)
 have e:kw "insert into " ++ bs "t" ++ kw " values (" ++ Az ks6++kw ")" = bs "insert into t values (1, -1.5, 'it''s', x'00ff', null, true)" := by decide
 rw [e] at h
 exact h
theorem O4:Ev PG Bt [Ap 4 Au (bs "t") [] [] (rowP Eg) E7.zero E7.zero] (.str (bs "insert into t values (-9223372036854775808)")):=by
 have h:=I8 (nm:=bs "t") (by decide) (vs:=Eg) (by decide) (by decide) (fun v hv=>by
  simp only [Eg,List.mem_cons,List.not_mem_nil,or_false] at hv
  subst hv
  exact ⟨J5 _ _ (by decide) (by kernel_rfl),by decide,by decide⟩) (by decide)
 have e:kw "insert into " ++ bs "t" ++ kw " values (" ++ Az Eg++kw ")" = bs "insert into t values (-9223372036854775808)" := by decide
 rw [e] at h
 exact h
theorem e5:Ab 5++Aa 5 0=bs "5" := by kernel_rfl
def x15:Xp:=.op 5 (.col [97]) (.lit (2,5,0,[]) (bs "5"))
theorem Pv:x15.wf:=by
 refine ⟨by decide,⟨97,[],rfl,rfl,rfl,by decide,by decide⟩,?_⟩
 have h:=Of (n:=5) (by decide)
 rw [e5] at h
 exact h
theorem Om:Df.Ok:=by
 refine ⟨by decide,by decide,fun c hc=>?_,by decide,fun i hi=>?_,fun x hx=>?_,rfl,rfl,fun _=>?_,by decide⟩
 ·simp only [Df,List.mem_cons,List.not_mem_nil,or_false] at hc
  rcases hc with rfl|rfl<;>decide
 ·simp only [Df,List.mem_cons,List.not_mem_nil,or_false] at hi
  subst hi;decide
 ·simp only [Df,List.mem_cons,List.not_mem_nil,or_false] at hx
  subst hx;decide
 ·exact (Dt x15 Pv (by decide)).x
theorem Oh:Ev PG Bt [Ap 1 Df.cells [] [] [] .nilslice E7.zero E7.zero] (.str (bs "create table t (a int not null, b dec, primary key (a), unique (b), check (a < 5), foreign key (b) references t)")):=by
 have j:joinL Df.items=bs "a int not null, b dec, primary key (a), unique (b), check (a < 5), foreign key (b) references t" := by
  show joinL (cT (bs "a") 1 true::_)=_
  rw [Iz _ _ (by decide)]
  decide
 have h:=Nr Om (by decide) (by rw [j];decide)
 rw [j] at h
 exact h
theorem knowns_ev (n:Int):Ev PG Gi [nI n] (.bool true):=by
 obtain ⟨k,hk,hw⟩:=wK n 24 (by decide) (by decide)
 have hk:k < 24:=by omega
 have gen:∀ (m:Nat) (more:List Fact) (j:Nat),Ah m more j=true→k=j→FactsOk PG (nuL [nI n]) more→Ev PG Gi [nI n] (.bool true):=fun m more j h e hm=>by
  subst e
  exact Ev.facts (nu:=nuL [nI n]) (args:=[.atom 0]) (r:=.bool true) prog_ok (nuL_okB rfl) (okR_eq h) (FactsOk.append (Q7 _) (FactsOk.append ⟨fprim Nv rfl rfl rfl,fprim hw rfl rfl rfl,trivial⟩ hm)) rfl rfl
 have c:k=0∨k=1∨k=2∨k=3∨k=4∨k=5∨k=6∨k=7∨k=8∨k=9∨k=10∨k=11∨k=12∨k=13∨k=14∨k=15∨k=16∨k=17∨k=18∨k=19∨k=20∨k=21∨k=22∨k=23:=by omega
 rcases c with e|e|e|e|e|e|e|e|e|e|e|e|e|e|e|e|e|e|e|e|e|e|e|e
 ·exact gen _ _ _ Ss e trivial
 ·exact gen _ _ _ Ub e trivial
 ·exact gen _ _ _ R1 e trivial
 ·exact gen _ _ _ Tv e trivial
 ·exact gen _ _ _ Rt e trivial
 ·exact gen _ _ _ Ta e trivial
 ·exact gen _ _ _ S8 e ⟨fprim Pi rfl rfl rfl,trivial⟩
 ·exact gen _ _ _ Ud e ⟨fprim O4 rfl rfl rfl,trivial⟩
 ·exact gen _ _ _ Ug e trivial
 ·exact gen _ _ _ Ue e trivial
 ·exact gen _ _ _ Qo e trivial
 ·exact gen _ _ _ Q6 e trivial
 ·exact gen _ _ _ P1 e trivial
 ·exact gen _ _ _ Qq e trivial
 ·exact gen _ _ _ Qy e trivial
 ·exact gen _ _ _ Qu e ⟨fprim Oh rfl rfl rfl,trivial⟩
 ·exact gen _ _ _ Qj e trivial
 ·exact gen _ _ _ Rh e trivial
 ·exact gen _ _ _ Qf e trivial
 ·exact gen _ _ _ Q4 e trivial
 ·exact gen _ _ _ Q0 e trivial
 ·exact gen _ _ _ P9 e trivial
 ·exact gen _ _ _ Qb e trivial
 ·exact gen _ _ _ Qm e trivial
end Go.Proofs.YtdlkibeljkapeaaGreatDoor.Den
