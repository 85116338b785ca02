-- Written by drive.py and pack.py (programs of this proof's own) through the kit's printer; not trusted: Lean checks it.
import Derived.Test.YtdlkibeljkapeaaGreatDoorCSqlAll12
namespace Go.Proofs.YtdlkibeljkapeaaGreatDoor.Den
open Go Go.RowKit
section
variable (ga gb:List UInt8)
def allT:List Sx→List UInt8
 | []=>[]
 | x::xs=>x.txt++(ga++(59::(gb++allT xs)))
structure StsF (s:List UInt8) (xs:List Sx) (i:Nat) (P K A:Nat→Nat):Prop where
 p0:P 0=i
 st:∀ m x,xs[m]? = some x→StAt s (P m) (K m) x.pv∧Rd s (K m) (markSg 5 (A m)) (P (m+1))
 e:(s.drop (P xs.length)).all isBlank=true
 l:P xs.length≤s.length
variable {ga gb}
theorem endOk_semi (hg:ga.all isBlank=true) (r:List UInt8):endOk (ga++(59::r))=true:=by
 cases ga with
 | nil=>rfl
 | cons c g =>
  simp only [List.all_cons,Bool.and_eq_true,isBlank,Bool.or_eq_true,beq_iff_eq] at hg
  rcases hg.1 with rfl|rfl<;>rfl
theorem sts_at {s:List UInt8} (hs:s.length≤4000) (hga:ga.all isBlank=true) (hgb:gb.all isBlank=true):∀ (xs:List Sx),(∀ x∈xs,x.wf)→∀ {i:Nat} {g:List UInt8},i≤s.length→g.all isBlank=true→s.drop i=g++allT ga gb xs→∃ P K A,StsF s xs i P K A
 | [],_,i,g,hi,hg,hd=>by
  refine ⟨fun _=>i,fun _=>i,fun _=>0,rfl,fun m x hx=>by simp at hx,?_,hi⟩
  show (s.drop i).all isBlank=true
  rw [hd]
  simpa [allT] using hg
 | x::xs,hw,i,g,hi,hg,hd=>by
  have hx:=hw x (by simp)
  obtain ⟨k,hc,hd2,hk⟩:=chain_of hs x.pcs (sx_ne x) (sx_pwf hx) (sx_adj hx) (Wr_txt x.pcs) hi hg (endOk_semi hga (gb++allT ga gb xs)) (i:=i) (by rw [hd];rfl)
  obtain ⟨j,⟨a,ha⟩,hd3,hj⟩:=mark_at hs (k:=5) ⟨by decide,by decide⟩ hk hga (show s.drop k=ga++(mkW 5++(gb++allT ga gb xs)) from hd2)
  obtain ⟨P,K,A,q⟩:=sts_at hs hga hgb xs (fun y hy=>hw y (by simp [hy])) hj hgb hd3
  refine ⟨fun m=>match m with|0=>i|m+1=>P m,fun m=>match m with|0=>k|m+1=>K m,fun m=>match m with|0=>a|m+1=>A m,rfl,fun m y hy=>?_,q.e,q.l⟩
  cases m with
  | zero =>
   simp at hy
   subst hy
   refine ⟨sx_at hx hc,?_⟩
   show Rd s k (markSg 5 a) (P 0)
   rw [q.p0];exact ha
  | succ m=>exact q.st m y (by simpa using hy)
end
def allNu (s:List UInt8) (Y:Nat→Sg) (T A B:Nat→Nat) (C:Nat→List PV) (j:Nat):PV :=
 if j < 400 then [PV.str s,nI s.length].getD j (nI 0)
 else if j < 500 then (sv (Y ((j - 400) / 10)) (T ((j - 400) / 10))).getD ((j - 400) % 10) (nI 0)
 else if j < 520 then (if (j - 500) % 2=0 then nI (A ((j - 500) / 2)) else nI (B ((j - 500) / 2)))
 else if j < 540 then nI s.length
 else if j < 1000 then (C ((j - 540) / 31)).getD ((j - 540) % 31) (nI 0)
 else nI 0
theorem getD_good {l:List PV} (h:(l.all fun p=>p.clean&&p.pure)=true) (j:Nat):(l.getD j (nI 0)).clean=true∧(l.getD j (nI 0)).pure=true:=by
 rw [List.getD_eq_getElem?_getD]
 cases hj:l[j]? with
 | none=>exact ⟨rfl,rfl⟩
 | some p=>simpa using List.all_eq_true.1 h p (List.mem_of_getElem? hj)
theorem allNu_ok {s:List UInt8} {Y:Nat→Sg} {T A B:Nat→Nat} {C:Nat→List PV} (hC:∀ m,((C m).all fun p=>p.clean&&p.pure)=true):NuOk (allNu s Y T A B C):=by
 have h:∀ j,(allNu s Y T A B C j).clean=true∧(allNu s Y T A B C j).pure=true:=fun j=>by
  unfold allNu
  split
  ·exact getD_good rfl _
  ·split
   ·exact getD_good rfl _
   ·split
    ·split<;>exact ⟨rfl,rfl⟩
    ·split
     ·exact ⟨rfl,rfl⟩
     ·split
      ·exact getD_good (hC _) _
      ·exact ⟨rfl,rfl⟩
 refine ⟨fun j=>(h j).1,fun j=>(h j).2,fun j hj=>?_⟩
 rw [Nat.ble_eq] at hj
 unfold allNu
 rw [if_neg (by omega),if_neg (by omega),if_neg (by omega),if_neg (by omega),if_neg (by omega)]
 rfl
def stsP (xs:List Sx):PV:=match xs with | []=>.nilslice|_=>.slice 31 (xs.map Sx.pv)
theorem stsP_pure (xs:List Sx):(stsP xs).pure=true∧(stsP xs).clean=true∧(stsP xs).one=true:=by
 cases xs with
 | nil=>exact ⟨rfl,rfl,rfl⟩
 | cons x xs =>
  refine ⟨?_,rfl,rfl⟩
  show PV.pureL ((x::xs).map Sx.pv)=true
  refine pureL_of fun p hp=>?_
  obtain ⟨y,_,rfl⟩:=List.mem_map.1 hp
  have:=sx_pure (x:=y)
  rw [Bool.and_eq_true] at this
  exact this.1
set_option maxRecDepth 40000 in
set_option maxHeartbeats 4000000 in
theorem parseAll_ev {ga gb:List UInt8} (hga:ga.all isBlank=true) (hgb:gb.all isBlank=true) {xs:List Sx} (hx:∀ x∈xs,x.wf) (h8:xs.length < 9) {s:List UInt8} (hs:s=allT ga gb xs) (hl:s.length≤4000):Ev PG f_sql_ParseAll [.str s] (.tup [stsP xs,nI 0,nI 0]):=by
 obtain ⟨P,K,A,q⟩:=sts_at hl hga hgb xs hx (Nat.zero_le _) (g:=[]) rfl (i:=0) (by rw [hs];rfl)
 have hend:Rd s (P xs.length) (endSg s.length) s.length:=rd_end (by omega) q.l rfl q.e
 have each:∀ m,∃ Q:Sg × Nat,Q.1.k≠6∧∀ x,xs[m]? = some x→Rd s (P m) Q.1 Q.2∧Q.1.k≠0∧∀ z tz,Rd s (K m) z tz→zok z→EvS PG f_sql_parser_stmt [.box 0 0] (okL s Q.1 Q.2 0) x.pv (okL s z tz 0):=fun m=>by
  cases hm:xs[m]? with
  | none=>exact ⟨(endSg 0,0),(by show (0:Int)≠6;decide),fun x h=>by cases h⟩
  | some x =>
   obtain ⟨y,tu,h1,h2,h3⟩:=(q.st m x hm).1
   exact ⟨(y,tu),h1.k,fun x' h=>by cases h;exact ⟨h1,h2,h3⟩⟩
 obtain ⟨Q,hQ⟩:=Classical.axiomOfChoice each
 obtain ⟨n,hn⟩:∃ n,n=xs.length:=⟨_,rfl⟩
 have hX:∀ m,m < n→∃ x,xs[m]? = some x:=fun m hm=>⟨_,List.getElem?_eq_getElem (by omega)⟩
 have hnu:=allNu_ok (s:=s) (Y:=fun m=>(Q m).1) (T:=fun m=>(Q m).2) (A:=A) (B:=fun m=>P (m+1)) (C:=fun m=>match xs[m]? with|some x=>x.cells|none=>[]) (fun m=>by
  cases xs[m]? with
  | none=>rfl
  | some x=>exact sx_good x)
 obtain ⟨nu,hnue⟩:∃ nu,nu=allNu s (fun m=>(Q m).1) (fun m=>(Q m).2) A (fun m=>P (m+1)) (fun m=>match xs[m]? with|some x=>x.cells|none=>[]):=⟨_,rfl⟩
 rw [← hnue] at hnu
 have hS:∀ m x,m < 9→xs[m]? = some x→subD nu (s31 (540+31*m))=x.pv:=fun m x hm hx=>by
  rw [sx_cells]
  refine s31_sub (sx_len x) fun i hi=>?_
  rw [hnue]
  unfold allNu
  rw [if_neg (by omega),if_neg (by omega),if_neg (by omega),if_neg (by omega),if_pos (by omega),show (540+31*m+i - 540) / 31=m by omega,show (540+31*m+i - 540) % 31=i by omega]
  show (match xs[m]? with|some x=>x.cells|none=>[]).getD i (nI 0)=_
  rw [hx]
 have hG:∀ m,m < 9→(gS (400+10*m)).map (subRes nu)=okL s (Q m).1 (Q m).2 0:=fun m hm=>by
  have h:∀ i,i < 8→nu (400+10*m+i)=(sv (Q m).1 (Q m).2).getD i (nI 0):=fun i hi=>by
   rw [hnue]
   unfold allNu
   rw [if_neg (by omega),if_pos (by omega),show (400+10*m+i - 400) / 10=m by omega,show (400+10*m+i - 400) % 10=i by omega]
  have h00:nu 0 = .str s:=by rw [hnue];rfl
  show [Res.box [nu 0,nu (400+10*m+0),nu (400+10*m+1),nu (400+10*m+2),nu (400+10*m+3),nu (400+10*m+4),nu (400+10*m+5),nu (400+10*m+6),nI 0,nu (400+10*m+7),nI 0,nI 0,nI 0]]=_
  rw [h00,h 0 (by decide),h 1 (by decide),h 2 (by decide),h 3 (by decide),h 4 (by decide),h 5 (by decide),h 6 (by decide),h 7 (by decide)]
  rfl
 have hM:∀ m,m < 9→(mkS 5 (500+2*m)).map (subRes nu)=okL s (markSg 5 (A m)) (P (m+1)) 0:=fun m hm=>by
  have h0:nu (500+2*m)=nI (A m):=by
   rw [hnue]
   unfold allNu
   rw [if_neg (by omega),if_neg (by omega),if_pos (by omega),if_pos (by omega),show (500+2*m - 500) / 2=m by omega]
  have h1:nu (500+2*m+1)=nI (P (m+1)):=by
   rw [hnue]
   unfold allNu
   rw [if_neg (by omega),if_neg (by omega),if_pos (by omega),if_neg (by omega),show (500+2*m+1 - 500) / 2=m by omega]
  have h00:nu 0 = .str s:=by rw [hnue];rfl
  show [Res.box [nu 0,nI 5,nu (500+2*m), .str (mkW 5),nI 0,nI 0,nI 0, .str [],nI 0,nu (500+2*m+1),nI 0,nI 0,nI 0]]=_
  rw [h00,h0,h1]
  rfl
 have hE:(eoS 520).map (subRes nu)=okL s (endSg s.length) s.length 0:=by rw [hnue];rfl
 have hk:=okR_eq (all_k (n:=n) (by omega))
 have hf:FactsOk PG nu (allF n):=by
  unfold allF
  refine FactsOk.append ⟨fStrLen (s:=s) (by rw [hnue];rfl) (by rw [hnue];rfl) (by rw [hnue];rfl),fCmp (a:=s.length) (b:=100000) (c:=false) (by rw [hnue];rfl) rfl rfl (by simp only [intP];rw [decide_eq_false (by omega)]) (by decide) rfl,?_,?_,trivial⟩ (FactsOk.of fun f hf=>?_)
  ·cases n with
   | zero =>
    have h0:xs.length=0:=hn.symm
    have hr:=hend.ev
    rw [h0,q.p0] at hr
    exact fprim hr (by rw [hnue];rfl) (by rw [hnue];rfl) (by rw [hnue];rfl)
   | succ n =>
    obtain ⟨x,hx0⟩:=hX 0 (by omega)
    obtain ⟨h1,_,_⟩:=(hQ 0).2 x hx0
    rw [q.p0] at h1
    have he:=h1.ev
    have h0:=h1.e
    have hg:=hG 0 (by decide)
    refine fprim he (by rw [hnue];rfl) ?_ (by rw [hnue];rfl)
    have hq:(Q 0).1.pv=sgA (nI (Q 0).1.k) (nI (Q 0).1.a) (.str (Q 0).1.w) (nI (Q 0).1.v.1) (nI (Q 0).1.v.2.1) (nI (Q 0).1.v.2.2.1) (.str (Q 0).1.v.2.2.2) (nI 0):=by
     unfold Sg.pv
     rw [h0]
    rw [hq,hnue]
    rfl
  ·cases n with
   | zero =>
    exact fCmp (a:=(Q 0).1.k) (b:=6) (c:=false) (by rw [hnue];rfl) rfl rfl (by rw [i64eq,beq_eq_false_iff_ne.2 (hQ 0).1]) (by decide) rfl
   | succ n =>
    obtain ⟨x,hx0⟩:=hX 0 (by omega)
    obtain ⟨h1,_,_⟩:=(hQ 0).2 x hx0
    exact fCmp (a:=(Q 0).1.k) (b:=6) (c:=false) (by rw [hnue];rfl) rfl rfl (by rw [i64eq,beq_eq_false_iff_ne.2 h1.k]) (by decide) rfl
  ·obtain ⟨m,hm,hf⟩:=List.mem_flatMap.1 hf
   rw [List.mem_range] at hm
   obtain ⟨x,hxm⟩:=hX m hm
   obtain ⟨h1,h2,h3⟩:=(hQ m).2 x hxm
   have hr:=(q.st m x hxm).2
   have hSm:=hS m x (by omega) hxm
   simp only [List.mem_cons,List.not_mem_nil,or_false] at hf
   rcases hf with rfl|rfl|rfl
   ·have hk0:nu (400+10*m)=nI (Q m).1.k:=by
     rw [hnue]
     unfold allNu
     rw [if_neg (by omega),if_pos (by omega),show (400+10*m - 400) / 10=m by omega,show (400+10*m - 400) % 10=0 by omega]
     rfl
    exact fCmp (a:=(Q m).1.k) (b:=0) (c:=true) hk0 rfl rfl (by rw [i64ne];simp [h2]) (by decide) rfl
   ·exact fst1 (h3 _ _ hr (semi_zok _)) rfl (hG m (by omega)) hSm (hM m (by omega)) rfl
   ·by_cases hl:m+1=n
    ·rw [if_pos hl]
     have he:Rd s (P (m+1)) (endSg s.length) s.length:=by rw [hl,hn];exact hend
     exact fst1 (next_ev (markSg 5 (A m)) 0 he) rfl (hM m (by omega)) rfl hE rfl
    ·rw [if_neg hl]
     obtain ⟨x',hx'⟩:=hX (m+1) (by omega)
     exact fst1 (next_ev (markSg 5 (A m)) 0 ((hQ (m+1)).2 x' hx').1) rfl (hM m (by omega)) rfl (hG (m+1) (by omega)) rfl
 have hR:subD nu (stsA n)=stsP xs:=by
  rw [hn]
  cases hxs:xs with
  | nil=>rfl
  | cons y ys =>
   show PV.slice 31 (subDL nu _)=PV.slice 31 _
   rw [subDL_map,List.map_map]
   congr 1
   refine List.ext_getElem? fun m=>?_
   rw [List.getElem?_map,List.getElem?_map]
   by_cases hm:m < (y::ys).length
   ·rw [List.getElem?_range hm,List.getElem?_eq_getElem hm]
    have:=hS m ((y::ys)[m]) (by rw [← hxs] at hm;omega) (by rw [hxs];exact List.getElem?_eq_getElem hm)
    show some (subD nu (s31 (540+31*m)))=_
    rw [this]
    rfl
   ·rw [List.getElem?_eq_none (by rw [List.length_range];omega),List.getElem?_eq_none (by omega)]
    rfl
 have hp:=stsP_pure xs
 have h00:nu 0 = .str s:=by rw [hnue];rfl
 have hT:subD nu (.tup [stsA n,nI 0,nI 0]) = .tup [stsP xs,nI 0,nI 0]:=by
  show PV.tup [subD nu (stsA n),nI 0,nI 0]=_
  rw [hR]
 have:=Ev.facts (args:=[.atom 0]) (r:=.tup [stsA n,nI 0,nI 0]) prog_ok hnu hk hf (by show (((nu 0).pure&&(nu 0).one)&&true&&true)=true;rw [h00];rfl) (by
  rw [hT]
  have hsh:(stsP xs).shut=true:=by cases xs<;>rfl
  show ((PV.pure (stsP xs)&&(true&&(true&&true)))&&((stsP xs).shut&&(true&&(true&&true))))=true
  rw [hp.1,hsh];rfl)
 rw [hT] at this
 simp only [List.map_cons,List.map_nil] at this
 have e0:subD nu (.atom 0) = .str s:=h00
 rw [e0] at this
 exact this
end Go.Proofs.YtdlkibeljkapeaaGreatDoor.Den
namespace Go.Proofs.YtdlkibeljkapeaaGreatDoor.Den
open Go Go.RowKit
def sepL (g:Nat):List UInt8:=match g with|0=>[59]|1=>[32,59,10]|_=>[59,32,32]
def accA (i:Nat):PV:=match i with|0=>.str []|i+1=>.atom (41+i)
def laA (b:Bool):List Fact:=[.prim f_l3_known [] (.bool true), .prim f_l3_Few [.atom 3] (.bool b)]
def laB (m g:Nat) (b8:Bool):List Fact:=[.op (.len ty_sl_int) [.atom 0] (.atom 5), .prim f_l3_within [.atom 4,nI 3] (nI g),oI .lss (nI m) (.atom 5) (.bool b8)] ++
 (List.range m).flatMap fun (i:Nat)=>[oI .lss (nI i) (.atom 5) (.bool true), .op (.ix ty_sl_int) [.atom 0,nI i] (.ref [.atom (10+i)]), .prim f_l3_Stmt [.atom (10+i), .atom 1, .atom 2, .str [97,59,98], .atom 3, .atom 3] (s31 (540+31*i)), .prim f_r3_Text [s31 (540+31*i)] (.atom (20+i)),sA (accA i) (.atom (20+i)) (.atom (30+i)),sA (.atom (30+i)) (.str (sepL g)) (.atom (41+i))]
def laC (m:Nat) (q:Bool):List Fact:=[.op (.len ty_string) [accA m] (.atom 60),oI .gtr (.atom 60) (nI 4000) (.bool q)]
def laD (m:Nat):List Fact:=.prim f_sql_ParseAll [accA m] (.tup [stsA m,nI 0,nI 0])::(List.range m).map fun (i:Nat)=>.prim f_r3_Same [s31 (540+31*i),s31 (540+31*i)] (.bool true)
noncomputable abbrev laK (fs:List Fact):Bool:=okR (.bool true) (callF PG (fOrc noOwn fs) 30 f_l3_SqlAll [.atom 0, .atom 1, .atom 2, .atom 3, .atom 4] [])
theorem la_k0:laK (laA false)=true:=by kernel_rfl
theorem la_k1:((List.range 5).all fun m=>(List.range 3).all fun g=>laK (laA true++(laB m g false++laC m true))&&laK (laA true++(laB m g false++(laC m false++laD m))))=true:=by kernel_rfl
theorem la_k2:((List.range 3).all fun m=>(List.range 3).all fun g=>laK (laA true++(laB (m+5) g false++laC (m+5) true))&&laK (laA true++(laB (m+5) g false++(laC (m+5) false++laD (m+5)))))=true:=by kernel_rfl
theorem la_k3:(bl fun b=>(List.range 3).all fun g=>laK (laA true++(laB 8 g b++laC 8 true))&&laK (laA true++(laB 8 g b++(laC 8 false++laD 8))))=true:=by kernel_rfl
end Go.Proofs.YtdlkibeljkapeaaGreatDoor.Den
namespace Go.Proofs.YtdlkibeljkapeaaGreatDoor.Den
open Go Go.RowKit
theorem valsT_len:∀ (vs:List (V4 × List UInt8)),(∀ v∈vs,LitOk v.1 v.2∧nobl v.2)→(valsT vs).length≤202*vs.length
 | [],_=>by simp [valsT]
 | [v],h=>by
  have:=(h v (by simp)).1.len
  show v.2.length≤_
  simp;omega
 | v::w::vs,h=>by
  have h1:=(h v (by simp)).1.len
  have ih:=valsT_len (w::vs) (fun x hx=>h x (by simp at hx ⊢;exact .inr hx))
  have k:(kw ", ").length=2:=by decide
  show (v.2++(kw ", " ++ valsT (w::vs))).length≤_
  rw [List.length_append,List.length_append,k]
  simp only [List.length_cons] at ih ⊢
  omega
theorem q_drop:(kw "drop").length=4:=by decide
theorem q_table:(kw "table").length=5:=by decide
theorem q_alter:(kw "alter").length=5:=by decide
theorem q_add:(kw "add").length=3:=by decide
theorem q_foreign:(kw "foreign").length=7:=by decide
theorem q_key:(kw "key").length=3:=by decide
theorem q_references:(kw "references").length=10:=by decide
theorem q_insert:(kw "insert").length=6:=by decide
theorem q_into:(kw "into").length=4:=by decide
theorem q_values:(kw "values").length=6:=by decide
theorem q_update:(kw "update").length=6:=by decide
theorem q_set:(kw "set").length=3:=by decide
theorem q_delete:(kw "delete").length=6:=by decide
theorem q_from:(kw "from").length=4:=by decide
theorem q_select:(kw "select").length=6:=by decide
theorem q_count:(kw "count").length=5:=by decide
theorem q_where:(kw "where").length=5:=by decide
set_option linter.unusedSimpArgs false in
theorem len_cre_ (b:Tb) (hx:(Sx.cre b).wf):(Sx.cre b).txt.length≤60000:=by
 have m2:(mkW 2).length=1:=rfl
 have m3:(mkW 3).length=1:=rfl
 have m6:(mkW 6).length=1:=rfl
 have m10:(mkW 10).length=1:=rfl
 have hW:∀ w,WhOk w→(pTxt (whP w)).length≤25700:=fun w h=>by rw [whT_eq];exact whT_len h
 show (pTxt b.pcs).length≤_
 rw [crT_eq hx]
 have h0:=hx.k
 have hu:=hx.u
 have hl:=hx.l
 have h1:=colsT_len hx b.k
 have h2:=uqsT_len hx b.u
 have h3:=lksT_len hx b.l
 have h4:=ckT_len hx
 have h5:=nm_len hx.nm
 have l1:(kw "create table ").length=13:=by decide
 have l2:(kw " (").length=2:=by decide
 have l3:(kw "primary key (").length=13:=by decide
 have l4:(kw ")").length=1:=by decide
 unfold Tb.crT Tb.md Tb.hd
 simp only [List.length_append,l1,l2,l3,l4,show (cnm b.key).length=1 from rfl]
 omega
set_option linter.unusedSimpArgs false in
theorem len_drop_ (nm:List UInt8) (hx:(Sx.drop nm).wf):(Sx.drop nm).txt.length≤60000:=by
 have m2:(mkW 2).length=1:=rfl
 have m3:(mkW 3).length=1:=rfl
 have m6:(mkW 6).length=1:=rfl
 have m10:(mkW 10).length=1:=rfl
 have hW:∀ w,WhOk w→(pTxt (whP w)).length≤25700:=fun w h=>by rw [whT_eq];exact whT_len h
 have h1:=nm_len hx
 have e0:(Sx.drop nm).txt=pTxt [(false,It.w (kw "drop")),(true, .w (kw "table")),(true, .w nm)]:=rfl
 rw [e0]
 simp only [pTxt,It.txt,sp,List.length_append,List.length_cons,List.length_nil,m2,m3,m6,m10,q_drop,q_table,q_alter,q_add,q_foreign,q_key,q_references,q_insert,q_into,q_values,q_update,q_set,q_delete,q_from,q_select,q_count,q_where]
 exact Nat.le_of_not_lt fun hh=>by omega
set_option linter.unusedSimpArgs false in
theorem len_link_ (nm col dst:List UInt8) (hx:(Sx.link nm col dst).wf):(Sx.link nm col dst).txt.length≤60000:=by
 have m2:(mkW 2).length=1:=rfl
 have m3:(mkW 3).length=1:=rfl
 have m6:(mkW 6).length=1:=rfl
 have m10:(mkW 10).length=1:=rfl
 have hW:∀ w,WhOk w→(pTxt (whP w)).length≤25700:=fun w h=>by rw [whT_eq];exact whT_len h
 have h1:=nm_len hx.1
 have h2:=nm_len hx.2.1
 have h3:=nm_len hx.2.2
 have e0:(Sx.link nm col dst).txt=pTxt [(false,It.w (kw "alter")),(true, .w (kw "table")),(true, .w nm),(true, .w (kw "add")),(true, .w (kw "foreign")),(true, .w (kw "key")),(true, .m 2),(false, .w col),(false, .m 3),(true, .w (kw "references")),(true, .w dst)]:=rfl
 rw [e0]
 simp only [pTxt,It.txt,sp,List.length_append,List.length_cons,List.length_nil,m2,m3,m6,m10,q_drop,q_table,q_alter,q_add,q_foreign,q_key,q_references,q_insert,q_into,q_values,q_update,q_set,q_delete,q_from,q_select,q_count,q_where]
 exact Nat.le_of_not_lt fun hh=>by omega
set_option linter.unusedSimpArgs false in
theorem len_ins_ (nm:List UInt8) (vs:List (V4 × List UInt8)) (hx:(Sx.ins nm vs).wf):(Sx.ins nm vs).txt.length≤60000:=by
 have m2:(mkW 2).length=1:=rfl
 have m3:(mkW 3).length=1:=rfl
 have m6:(mkW 6).length=1:=rfl
 have m10:(mkW 10).length=1:=rfl
 have hW:∀ w,WhOk w→(pTxt (whP w)).length≤25700:=fun w h=>by rw [whT_eq];exact whT_len h
 have h1:=nm_len hx.1
 have hv:=valsT_len vs hx.2.2.2
 have h5:=hx.2.2.1
 have e0:(Sx.ins nm vs).txt=pTxt ([(false,It.w (kw "insert")),(true, .w (kw "into")),(true, .w nm),(true, .w (kw "values")),(true, .m 2)]++(valsP false vs++[(false, .m 3)])):=rfl
 rw [e0]
 rw [pTxt_app,pTxt_app,valsT_eq vs false hx.2.1]
 simp only [pTxt,It.txt,sp,List.length_append,List.length_cons,List.length_nil,m2,m3,m6,m10,q_drop,q_table,q_alter,q_add,q_foreign,q_key,q_references,q_insert,q_into,q_values,q_update,q_set,q_delete,q_from,q_select,q_count,q_where]
 exact Nat.le_of_not_lt fun hh=>by omega
set_option linter.unusedSimpArgs false in
theorem len_upd_ (nm col:List UInt8) (e:Xp) (w:Option Xp) (hx:(Sx.upd nm col e w).wf):(Sx.upd nm col e w).txt.length≤60000:=by
 have m2:(mkW 2).length=1:=rfl
 have m3:(mkW 3).length=1:=rfl
 have m6:(mkW 6).length=1:=rfl
 have m10:(mkW 10).length=1:=rfl
 have hW:∀ w,WhOk w→(pTxt (whP w)).length≤25700:=fun w h=>by rw [whT_eq];exact whT_len h
 have h1:=nm_len hx.1
 have h2:=nm_len hx.2.1
 have h3:=hx.2.2.1.len
 have h4:=hW w hx.2.2.2
 have e0:(Sx.upd nm col e w).txt=pTxt ([(false,It.w (kw "update")),(true, .w nm),(true, .w (kw "set")),(true, .w col),(true, .m 6),(true, .x e)]++whP w):=rfl
 rw [e0]
 rw [pTxt_app]
 simp only [pTxt,It.txt,sp,List.length_append,List.length_cons,List.length_nil,m2,m3,m6,m10,q_drop,q_table,q_alter,q_add,q_foreign,q_key,q_references,q_insert,q_into,q_values,q_update,q_set,q_delete,q_from,q_select,q_count,q_where]
 exact Nat.le_of_not_lt fun hh=>by omega
set_option linter.unusedSimpArgs false in
theorem len_del_ (nm:List UInt8) (w:Option Xp) (hx:(Sx.del nm w).wf):(Sx.del nm w).txt.length≤60000:=by
 have m2:(mkW 2).length=1:=rfl
 have m3:(mkW 3).length=1:=rfl
 have m6:(mkW 6).length=1:=rfl
 have m10:(mkW 10).length=1:=rfl
 have hW:∀ w,WhOk w→(pTxt (whP w)).length≤25700:=fun w h=>by rw [whT_eq];exact whT_len h
 have h1:=nm_len hx.1
 have h4:=hW w hx.2
 have e0:(Sx.del nm w).txt=pTxt ([(false,It.w (kw "delete")),(true, .w (kw "from")),(true, .w nm)]++whP w):=rfl
 rw [e0]
 rw [pTxt_app]
 simp only [pTxt,It.txt,sp,List.length_append,List.length_cons,List.length_nil,m2,m3,m6,m10,q_drop,q_table,q_alter,q_add,q_foreign,q_key,q_references,q_insert,q_into,q_values,q_update,q_set,q_delete,q_from,q_select,q_count,q_where]
 exact Nat.le_of_not_lt fun hh=>by omega
set_option linter.unusedSimpArgs false in
theorem len_slc_ (nm:List UInt8) (w:Option Xp) (hx:(Sx.slc nm w).wf):(Sx.slc nm w).txt.length≤60000:=by
 have m2:(mkW 2).length=1:=rfl
 have m3:(mkW 3).length=1:=rfl
 have m6:(mkW 6).length=1:=rfl
 have m10:(mkW 10).length=1:=rfl
 have hW:∀ w,WhOk w→(pTxt (whP w)).length≤25700:=fun w h=>by rw [whT_eq];exact whT_len h
 have h1:=nm_len hx.1
 have h4:=hW w hx.2
 have e0:(Sx.slc nm w).txt=pTxt ([(false,It.w (kw "select")),(true, .m 10),(true, .w (kw "from")),(true, .w nm)]++whP w):=rfl
 rw [e0]
 rw [pTxt_app]
 simp only [pTxt,It.txt,sp,List.length_append,List.length_cons,List.length_nil,m2,m3,m6,m10,q_drop,q_table,q_alter,q_add,q_foreign,q_key,q_references,q_insert,q_into,q_values,q_update,q_set,q_delete,q_from,q_select,q_count,q_where]
 exact Nat.le_of_not_lt fun hh=>by omega
set_option linter.unusedSimpArgs false in
theorem len_cou_ (nm:List UInt8) (w:Option Xp) (hx:(Sx.cou nm w).wf):(Sx.cou nm w).txt.length≤60000:=by
 have m2:(mkW 2).length=1:=rfl
 have m3:(mkW 3).length=1:=rfl
 have m6:(mkW 6).length=1:=rfl
 have m10:(mkW 10).length=1:=rfl
 have hW:∀ w,WhOk w→(pTxt (whP w)).length≤25700:=fun w h=>by rw [whT_eq];exact whT_len h
 have h1:=nm_len hx.1
 have h4:=hW w hx.2
 have e0:(Sx.cou nm w).txt=pTxt ([(false,It.w (kw "select")),(true, .w (kw "count")),(false, .m 2),(false, .m 10),(false, .m 3),(true, .w (kw "from")),(true, .w nm)]++whP w):=rfl
 rw [e0]
 rw [pTxt_app]
 simp only [pTxt,It.txt,sp,List.length_append,List.length_cons,List.length_nil,m2,m3,m6,m10,q_drop,q_table,q_alter,q_add,q_foreign,q_key,q_references,q_insert,q_into,q_values,q_update,q_set,q_delete,q_from,q_select,q_count,q_where]
 exact Nat.le_of_not_lt fun hh=>by omega
theorem sx_txt_len {x:Sx} (hx:x.wf):x.txt.length≤60000:=by
 match x,hx with
 | .cre b,hx=>exact len_cre_ b hx
 | .drop nm,hx=>exact len_drop_ nm hx
 | .link nm col dst,hx=>exact len_link_ nm col dst hx
 | .ins nm vs,hx=>exact len_ins_ nm vs hx
 | .upd nm col e w,hx=>exact len_upd_ nm col e w hx
 | .del nm w,hx=>exact len_del_ nm w hx
 | .slc nm w,hx=>exact len_slc_ nm w hx
 | .cou nm w,hx=>exact len_cou_ nm w hx
theorem allT_snoc (ga gb:List UInt8):∀ (xs:List Sx) (x:Sx),allT ga gb (xs++[x])=allT ga gb xs++(x.txt++(ga++59::gb))
 | [],x=>by simp [allT]
 | y::ys,x=>by
  simp only [List.cons_append,allT,allT_snoc ga gb ys x]
  simp
def laNu (H:List PV) (kd:Nat→Int) (tx a1 a2:Nat→List UInt8) (ln:Int) (C:Nat→List PV) (j:Nat):PV :=
 if j < 10 then H.getD j (nI 0)
 else if j < 20 then nI (kd (j - 10))
 else if j < 30 then .str (tx (j - 20))
 else if j < 41 then .str (a1 (j - 30))
 else if j < 60 then .str (a2 (j - 41))
 else if j < 540 then nI ln
 else if j < 1000 then (C ((j - 540) / 31)).getD ((j - 540) % 31) (nI 0)
 else nI 0
theorem laNu_ok {H:List PV} {kd:Nat→Int} {tx a1 a2:Nat→List UInt8} {ln:Int} {C:Nat→List PV} (hH:(H.all fun p=>p.clean&&p.pure)=true) (hC:∀ m,((C m).all fun p=>p.clean&&p.pure)=true):NuOk (laNu H kd tx a1 a2 ln C):=by
 have h:∀ j,(laNu H kd tx a1 a2 ln C j).clean=true∧(laNu H kd tx a1 a2 ln C j).pure=true:=fun j=>by
  unfold laNu
  split
  ·exact getD_good hH _
  ·split
   ·exact ⟨rfl,rfl⟩
   ·split
    ·exact ⟨rfl,rfl⟩
    ·split
     ·exact ⟨rfl,rfl⟩
     ·split
      ·exact ⟨rfl,rfl⟩
      ·split
       ·exact ⟨rfl,rfl⟩
       ·split
        ·exact getD_good (hC _) _
        ·exact ⟨rfl,rfl⟩
 refine ⟨fun j=>(h j).1,fun j=>(h j).2,fun j hj=>?_⟩
 rw [Nat.ble_eq] at hj
 unfold laNu
 rw [if_neg (by omega),if_neg (by omega),if_neg (by omega),if_neg (by omega),if_neg (by omega),if_neg (by omega),if_neg (by omega)]
 rfl
end Go.Proofs.YtdlkibeljkapeaaGreatDoor.Den
namespace Go.Proofs.YtdlkibeljkapeaaGreatDoor.Den
open Go Go.RowKit
theorem la_args {nu:Nat→PV} {kv nsv wv:PV} {n g:Int} (h1:goodA kv) (h2:goodA nsv) (h3:goodA wv) (e0:nu 0=kv) (e1:nu 1=nI n) (e2:nu 2=nsv) (e3:nu 3=wv) (e4:nu 4=nI g) :
  ([PV.atom 0, .atom 1, .atom 2, .atom 3, .atom 4].all fun p=>argB nu p&&p.shut)=true:=by
 have a1:=h1.1
 have a2:=h2.1
 have a3:=h3.1
 simp only [Bool.and_eq_true] at a1 a2 a3
 simp only [List.all_cons,List.all_nil,argB,subD,oneB,e0,e1,e2,e3,e4,a1.2,a2.2,a3.2,h1.2,h2.2,h3.2]
 rfl
theorem la_k {m g:Nat} (hm:m≤8) (hg:g < 3) {b8:Bool} (hb:m < 8→b8=false):laK (laA true++(laB m g b8++laC m true))=true∧laK (laA true++(laB m g b8++(laC m false++laD m)))=true:=by
 have two:∀ {x y:Bool},(x&&y)=true→x=true∧y=true:=fun h=>by simpa using h
 by_cases h5:m < 5
 ·have h:=two (List.all_eq_true.1 (List.all_eq_true.1 la_k1 m (by rw [List.mem_range];exact h5)) g (by rw [List.mem_range];exact hg))
  rw [hb (by omega)]
  exact h
 ·by_cases h8:m < 8
  ·obtain ⟨j,rfl⟩:∃ j,m=j+5:=⟨m - 5,by omega⟩
   have h:=two (List.all_eq_true.1 (List.all_eq_true.1 la_k2 j (by rw [List.mem_range];omega)) g (by rw [List.mem_range];exact hg))
   rw [hb (by omega)]
   exact h
  ·obtain rfl:m=8:=by omega
   have h:=two (List.all_eq_true.1 (bl_all la_k3 b8) g (by rw [List.mem_range];exact hg))
   exact h
theorem sep_eq:∀ g,g < 3→∃ ga gb,sepL g=ga++59::gb∧ga.all isBlank=true∧gb.all isBlank=true∧(sepL g).length≤3:=by
 intro g hg
 have:g=0∨g=1∨g=2:=by omega
 rcases this with rfl|rfl|rfl
 ·exact ⟨[],[],rfl,rfl,rfl,by decide⟩
 ·exact ⟨[32],[10],rfl,rfl,rfl,by decide⟩
 ·exact ⟨[],[32,32],rfl,rfl,rfl,by decide⟩
set_option maxRecDepth 40000 in
set_option maxHeartbeats 4000000 in
theorem allLaw_ev {kv nsv:PV} {ks ns:List Int} (hk:kv = .slice 1 (ks.map (.int .i64))∨(kv = .nilslice∧ks=[])) (hns:nsv = .slice 1 (ns.map (.int .i64))∨(nsv = .nilslice∧ns=[])) {wn:Nat} {wl:List RawT} (hwn:nlOk wn wl) (hwo:RawT.oks wl) (n gaps:Int):Ev PG f_l3_SqlAll [kv,nI n,nsv,rawsP wn wl,nI gaps] (.bool true):=by
 have gk:goodA kv:=ints_good hk
 have gn:goodA nsv:=ints_good hns
 have gw:=raws_goodA wn wl
 have hfew:=few_ev wn wl hwn hwo
 have hH:([kv,nI n,nsv,rawsP wn wl,nI gaps,nI ks.length].all fun p=>p.clean&&p.pure)=true:=by
  simp only [List.all_cons,gk.1,gn.1,gw.1];rfl
 cases hf:fewB wl with
 | false =>
  rw [hf] at hfew
  have hnu:=laNu_ok (H:=[kv,nI n,nsv,rawsP wn wl,nI gaps,nI ks.length]) (kd:=fun _=>0) (tx:=fun _=>[]) (a1:=fun _=>[]) (a2:=fun _=>[]) (ln:=0) (C:=fun _=>[]) hH (fun _=>rfl)
  exact Ev.facts (args:=[.atom 0, .atom 1, .atom 2, .atom 3, .atom 4]) prog_ok hnu (okR_eq la_k0) ⟨fprim known_ev rfl rfl rfl,fprim hfew rfl rfl rfl,trivial⟩ (la_args gk gn gw rfl rfl rfl rfl rfl) rfl
 | true =>
  rw [hf] at hfew
  obtain ⟨X,hX⟩:=Classical.axiomOfChoice (fun kd=>stmt_ev kd n hns (s:=[97,59,98]) (by decide) hwn hwo hf hwn hwo hf)
  obtain ⟨g,hg3,hwg⟩:=wK gaps 3 (by decide) (by decide)
  have hg:g < 3:=by omega
  obtain ⟨ga,gb,hsep,hga,hgb,hsl⟩:=sep_eq g hg
  obtain ⟨m,hm⟩:∃ m,m=min ks.length 8:=⟨_,rfl⟩
  obtain ⟨S,hS⟩:∃ S:Nat→Sx,S=fun i=>X (ks.getD i 0):=⟨_,rfl⟩
  obtain ⟨acc,hacc⟩:∃ acc:Nat→List UInt8,acc=fun i=>allT ga gb ((List.range i).map S):=⟨_,rfl⟩
  have hwf:∀ i,(S i).wf:=fun i=>by rw [hS];exact (hX _).1
  have hacs:∀ i,acc (i+1)=acc i++(S i).txt++sepL g:=fun i=>by
   rw [hacc,hsep]
   show allT ga gb ((List.range (i+1)).map S)=_
   rw [List.range_succ,List.map_append]
   show allT ga gb ((List.range i).map S++[S i])=_
   rw [allT_snoc];simp
  have hal:∀ i,(acc i).length≤60003*i:=fun i=>by
   induction i with
   | zero=>rw [hacc];simp [allT]
   | succ i ih =>
    have:=sx_txt_len (hwf i)
    rw [hacs,List.length_append,List.length_append]
    exact Nat.le_of_not_lt fun hh=>by omega
  have hnu:=laNu_ok (H:=[kv,nI n,nsv,rawsP wn wl,nI gaps,nI ks.length]) (kd:=fun i=>ks.getD i 0) (tx:=fun i=>(S i).txt) (a1:=fun i=>acc i++(S i).txt) (a2:=fun i=>acc (i+1)) (ln:=(acc m).length) (C:=fun i=>(S i).cells) hH (fun i=>sx_good (S i))
  obtain ⟨nu,hnue⟩:∃ nu,nu=laNu [kv,nI n,nsv,rawsP wn wl,nI gaps,nI ks.length] (fun i=>ks.getD i 0) (fun i=>(S i).txt) (fun i=>acc i++(S i).txt) (fun i=>acc (i+1)) ((acc m).length:Nat) (fun i=>(S i).cells):=⟨_,rfl⟩
  rw [← hnue] at hnu
  have n0:nu 0=kv:=by rw [hnue];rfl
  have n1:nu 1=nI n:=by rw [hnue];rfl
  have n2:nu 2=nsv:=by rw [hnue];rfl
  have n3:nu 3=rawsP wn wl:=by rw [hnue];rfl
  have n4:nu 4=nI gaps:=by rw [hnue];rfl
  have n5:nu 5=nI ks.length:=by rw [hnue];rfl
  have n60:nu 60=nI (acc m).length:=by rw [hnue];rfl
  have n10:∀ i,i < 10→nu (10+i)=nI (ks.getD i 0):=fun i hi=>by
   rw [hnue];unfold laNu
   rw [if_neg (by omega),if_pos (by omega),show 10+i - 10=i by omega]
  have n20:∀ i,i < 10→nu (20+i) = .str (S i).txt:=fun i hi=>by
   rw [hnue];unfold laNu
   rw [if_neg (by omega),if_neg (by omega),if_pos (by omega),show 20+i - 20=i by omega]
  have n30:∀ i,i < 10→nu (30+i) = .str (acc i++(S i).txt):=fun i hi=>by
   rw [hnue];unfold laNu
   rw [if_neg (by omega),if_neg (by omega),if_neg (by omega),if_pos (by omega),show 30+i - 30=i by omega]
  have n41:∀ i,i < 10→nu (41+i) = .str (acc (i+1)):=fun i hi=>by
   rw [hnue];unfold laNu
   rw [if_neg (by omega),if_neg (by omega),if_neg (by omega),if_neg (by omega),if_pos (by omega),show 41+i - 41=i by omega]
  have hac0:acc 0=[]:=by rw [hacc];rfl
  have nac:∀ i,i < 10→subD nu (accA i) = .str (acc i)∧oneB nu (accA i)=true:=fun i hi=>by
   cases i with
   | zero=>rw [hac0];exact ⟨rfl,rfl⟩
   | succ i =>
    have h:=n41 i (by omega)
    refine ⟨h,?_⟩
    show (nu (41+i)).one=true
    rw [h];rfl
  have hSp:∀ i,i < 9→subD nu (s31 (540+31*i))=(S i).pv:=fun i hi=>by
   rw [sx_cells]
   refine s31_sub (sx_len _) fun j hj=>?_
   rw [hnue];unfold laNu
   rw [if_neg (by omega),if_neg (by omega),if_neg (by omega),if_neg (by omega),if_neg (by omega),if_neg (by omega),if_pos (by omega),show (540+31*i+j - 540) / 31=i by omega,show (540+31*i+j - 540) % 31=j by omega]
  have hone:∀ i,oneB nu (s31 (540+31*i))=true:=fun i=>rfl
  obtain ⟨b8,hb8⟩:∃ b8,b8=decide ((m:Int) < (ks.length:Int)):=⟨_,rfl⟩
  have hb8':m < 8→b8=false:=fun h=>by rw [hb8];exact decide_eq_false (by omega)
  have hA:FactsOk PG nu (laA true):=⟨fprim known_ev rfl rfl rfl,fprim hfew (by show [nu 3]=_;rw [n3]) rfl rfl,trivial⟩
  have hB:FactsOk PG nu (laB m g b8):=by
   unfold laB
   refine FactsOk.append ⟨fLen hk n0 n5,fprim hwg (by show [nu 4,nI 3]=_;rw [n4]) rfl rfl,fCmp (a:=m) (b:=ks.length) (c:=b8) rfl n5 rfl (by simp only [intP];rw [hb8]) (by decide) rfl,trivial⟩ (FactsOk.of fun f hf=>?_)
   obtain ⟨i,hi,hf⟩:=List.mem_flatMap.1 hf
   rw [List.mem_range] at hi
   have hx:i < ks.length:=by omega
   have hlt:((i:Nat):Int) < (ks.length:Int):=by omega
   have hst:=(hX (ks.getD i 0)).2
   have hSi:X (ks.getD i 0)=S i:=by rw [hS]
   rw [hSi] at hst
   have htx:=stext_ev (hwf i)
   have hti:=sx_txt_len (hwf i)
   have hai:=hal i
   have hq1:(acc i).length+(S i).txt.length≤9223372036854775807:=Nat.le_of_not_lt fun hh=>by omega
   have hq2:(acc i++(S i).txt).length+(sepL g).length≤9223372036854775807:=Nat.le_of_not_lt fun hh=>by rw [List.length_append] at hh;omega
   simp only [List.mem_cons,List.not_mem_nil,or_false] at hf
   rcases hf with rfl|rfl|rfl|rfl|rfl|rfl
   ·exact fCmp (c:=true) (a:=i) (b:=ks.length) rfl n5 rfl (by simp only [intP];rw [decide_eq_true hlt]) (by decide) rfl
   ·exact fIx hk hx n0 rfl (n10 i (by omega))
   ·refine fprim hst ?_ (hSp i (by omega)) (hone i)
    show [nu (10+i),nu 1,nu 2,PV.str [97,59,98],nu 3,nu 3]=_
    rw [n10 i (by omega),n1,n2,n3]
   ·refine fprim htx ?_ (n20 i (by omega)) (by show (nu (20+i)).one=true;rw [n20 i (by omega)];rfl)
    show [subD nu (s31 (540+31*i))]=_
    rw [hSp i (by omega)]
   ·exact fStrAdd (l:=acc i) (m:=(S i).txt) (nac i (by omega)).1 (n20 i (by omega)) hq1 (n30 i (by omega)) (by show (nu (30+i)).one=true;rw [n30 i (by omega)];rfl)
   ·exact fStrAdd (l:=acc i++(S i).txt) (m:=sepL g) (n30 i (by omega)) rfl hq2 (by rw [← hacs];exact n41 i (by omega)) (by show (nu (41+i)).one=true;rw [n41 i (by omega)];rfl)
  have hC:∀ q,decide (((acc m).length:Int) > 4000)=q→FactsOk PG nu (laC m q):=fun q hq =>
   ⟨fStrLen (nac m (by omega)).1 n60 (by show (nu 60).one=true;rw [n60];rfl),fCmp (a:=(acc m).length) (b:=4000) (c:=q) n60 rfl rfl (by simp only [intP];rw [hq]) (by decide) rfl,trivial⟩
  have hargs:=la_args gk gn gw n0 n1 n2 n3 n4
  have hD:(acc m).length≤4000→FactsOk PG nu (laD m):=fun hl=>by
   have hpa:=parseAll_ev hga hgb (xs:=(List.range m).map S) (fun x hx=>by
    obtain ⟨i,_,rfl⟩:=List.mem_map.1 hx
    exact hwf i) (by simp;omega) (s:=acc m) (by rw [hacc]) hl
   have hsts:subD nu (stsA m)=stsP ((List.range m).map S):=by
    cases hmm:m with
    | zero=>rfl
    | succ j =>
     have e:stsP ((List.range (j+1)).map S) = .slice 31 (((List.range (j+1)).map S).map Sx.pv):=by
      rw [show (List.range (j+1)).map S=S 0::((List.range j).map fun i=>S (i+1)) by rw [List.range_succ_eq_map];simp [Function.comp_def]]
      rfl
     rw [e]
     show PV.slice 31 (subDL nu _)=_
     rw [subDL_map,List.map_map,List.map_map]
     congr 1
     refine List.map_congr_left fun i hi=>?_
     rw [List.mem_range] at hi
     exact hSp i (by omega)
   refine ⟨fprim hpa ?_ ?_ ?_,FactsOk.of fun f hf=>?_⟩
   ·show [subD nu (accA m)]=_
    rw [(nac m (by omega)).1]
   ·show PV.tup [subD nu (stsA m),nI 0,nI 0]=_
    rw [hsts]
   ·show (oneB nu (stsA m)&&(true&&(true&&true)))=true
    have:oneB nu (stsA m)=true:=by cases m<;>rfl
    rw [this];rfl
   ·obtain ⟨i,hi,rfl⟩:=List.mem_map.1 hf
    rw [List.mem_range] at hi
    refine fprim (same_ev (hwf i)) ?_ rfl rfl
    show [subD nu (s31 (540+31*i)),subD nu (s31 (540+31*i))]=_
    rw [hSp i (by omega)]
  have hres : [PV.atom 0, .atom 1, .atom 2, .atom 3, .atom 4].map (subD nu)=[kv,nI n,nsv,rawsP wn wl,nI gaps]:=by
   show [nu 0,nu 1,nu 2,nu 3,nu 4]=_
   rw [n0,n1,n2,n3,n4]
  by_cases h4:(acc m).length≤4000
  ·have:=Ev.facts (args:=[.atom 0, .atom 1, .atom 2, .atom 3, .atom 4]) (r:=.bool true) prog_ok hnu (okR_eq (la_k (by omega) hg hb8').2) (FactsOk.append hA (FactsOk.append hB (FactsOk.append (hC false (decide_eq_false (by omega))) (hD h4)))) hargs rfl
   rw [hres] at this
   exact this
  ·have:=Ev.facts (args:=[.atom 0, .atom 1, .atom 2, .atom 3, .atom 4]) (r:=.bool true) prog_ok hnu (okR_eq (la_k (by omega) hg hb8').1) (FactsOk.append hA (FactsOk.append hB (hC true (decide_eq_true (by omega))))) hargs rfl
   rw [hres] at this
   exact this
end Go.Proofs.YtdlkibeljkapeaaGreatDoor.Den
