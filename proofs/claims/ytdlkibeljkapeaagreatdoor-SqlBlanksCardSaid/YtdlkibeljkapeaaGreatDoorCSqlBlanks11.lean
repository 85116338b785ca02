-- Written by drive.py and pack.py (programs of this proof's own) through the kit's printer; not trusted: Lean checks it.
import Derived.Test.YtdlkibeljkapeaaGreatDoorCSqlBlanks10
namespace Go.Proofs.YtdlkibeljkapeaaGreatDoor.Den
open Go Go.RowKit
def kwS (w:String) (j:Nat):List Res:=okP (.atom 0) (nI 1) (.atom j) (.str (kw w)) (nI 0) (nI 0) (nI 0) (.str []) (.atom (j+1)) (nI 0)
def nmS (n j:Nat):List Res:=okP (.atom 0) (nI 2) (.atom j) (.atom n) (nI 0) (nI 0) (nI 0) (.str []) (.atom (j+1)) (nI 0)
def mkS (m j:Nat):List Res:=okP (.atom 0) (nI 5) (.atom j) (.str (mkW m)) (nI 0) (nI 0) (nI 0) (.str []) (.atom (j+1)) (nI 0)
def gS (j:Nat):List Res:=okP (.atom 0) (.atom (j+0)) (.atom (j+1)) (.atom (j+2)) (.atom (j+3)) (.atom (j+4)) (.atom (j+5)) (.atom (j+6)) (.atom (j+7)) (nI 0)
abbrev anyT (a:List Res) (e:Nat) (b:List Res):Fact:=.st f_sql_parser_any [.box 0 0] a (eA e) b
def tlS (b:Bool):List Res:=match b with|true=>kwS "where" 30|false=>gS 80
def whF (b:Bool):List Fact:=match b with|true=>[nextT (kwS "where" 30) (gS 50),anyT (gS 50) 70 (gS 80)]|false=>[isT (gS 80) "where" false]
def wE (b:Bool):List PV:=match b with|true=>eaL 70|false=>E7.zero.L
noncomputable abbrev stK (st:List Res) (r:PV) (fs:List Fact):Bool:=okRS r (gS 80) (callF PG (fOrc noOwn fs) 30 f_sql_parser_stmt [.box 0 0] st)
def dropF:List Fact:=[nextT (kwS "drop" 10) (kwS "table" 12),nextT (kwS "table" 12) (nmS 2 14),nextT (nmS 2 14) (gS 80)]
theorem drop_k:stK (kwS "drop" 10) (stmtP (nI 2) tableZ (.atom 2) (.str []) (.str []) .nilslice E7.zero.L E7.zero.L) dropF=true:=by kernel_rfl
def linkF:List Fact:=[nextT (kwS "alter" 10) (kwS "table" 12),nextT (kwS "table" 12) (nmS 2 14),nextT (nmS 2 14) (kwS "add" 16),nextT (kwS "add" 16) (kwS "foreign" 18),nextT (kwS "foreign" 18) (kwS "key" 20),nextT (kwS "key" 20) (mkS 2 22),nextT (mkS 2 22) (nmS 3 24),nextT (nmS 3 24) (mkS 3 26),nextT (mkS 3 26) (kwS "references" 28),nextT (kwS "references" 28) (nmS 4 30),nextT (nmS 4 30) (gS 80)]
theorem link_k:stK (kwS "alter" 10) (stmtP (nI 3) tableZ (.atom 2) (.atom 3) (.atom 4) .nilslice E7.zero.L E7.zero.L) linkF=true:=by kernel_rfl
def updF (b:Bool):List Fact:=[nextT (kwS "update" 10) (nmS 2 12),nextT (nmS 2 12) (kwS "set" 14),nextT (kwS "set" 14) (nmS 3 16),nextT (nmS 3 16) (mkS 6 18),nextT (mkS 6 18) (gS 40),anyT (gS 40) 60 (tlS b)]++whF b
theorem upd_k:bl (fun b=>stK (kwS "update" 10) (stmtP (nI 5) tableZ (.atom 2) (.atom 3) (.str []) .nilslice (eaL 60) (wE b)) (updF b))=true:=by kernel_rfl
def delF (b:Bool):List Fact:=[nextT (kwS "delete" 10) (kwS "from" 12),nextT (kwS "from" 12) (nmS 2 14),nextT (nmS 2 14) (tlS b)]++whF b
theorem del_k:bl (fun b=>stK (kwS "delete" 10) (stmtP (nI 6) tableZ (.atom 2) (.str []) (.str []) .nilslice E7.zero.L (wE b)) (delF b))=true:=by kernel_rfl
def slcF (b:Bool):List Fact:=[nextT (kwS "select" 10) (mkS 10 12),nextT (mkS 10 12) (kwS "from" 14),nextT (kwS "from" 14) (nmS 2 16),nextT (nmS 2 16) (tlS b)]++whF b
theorem slc_k:bl (fun b=>stK (kwS "select" 10) (stmtP (nI 7) tableZ (.atom 2) (.str []) (.str []) .nilslice E7.zero.L (wE b)) (slcF b))=true:=by kernel_rfl
def couF (b:Bool):List Fact:=[nextT (kwS "select" 10) (kwS "count" 12),nextT (kwS "count" 12) (mkS 2 14),nextT (mkS 2 14) (mkS 10 16),nextT (mkS 10 16) (mkS 3 18),nextT (mkS 3 18) (kwS "from" 20),nextT (kwS "from" 20) (nmS 2 22),nextT (nmS 2 22) (tlS b)]++whF b
theorem cou_k:bl (fun b=>stK (kwS "select" 10) (stmtP (nI 8) tableZ (.atom 2) (.str []) (.str []) .nilslice E7.zero.L (wE b)) (couF b))=true:=by kernel_rfl
def cmS (n m:Nat):List Res:=if m+1=n then mkS 3 20 else mkS 4 (190+2*m)
def insF2 (n:Nat):List Fact:=[nextT (kwS "insert" 10) (kwS "into" 12),nextT (kwS "into" 12) (nmS 2 14),nextT (nmS 2 14) (kwS "values" 16),nextT (kwS "values" 16) (mkS 2 18),nextT (mkS 2 18) (gS 100),nextT (mkS 3 20) (gS 80)] ++
 ((List.range n).map (fun m=>.st f_sql_parser_constant [.box 0 0] (gS (100+10*m)) (litP (160+4*m)) (cmS n m))++(List.range (n - 1)).map (fun m=>nextT (mkS 4 (190+2*m)) (gS (100+10*(m+1)))))
def v4A (j:Nat):PV:=.agg [.atom j, .atom (j+1), .atom (j+2), .atom (j+3)]
theorem ins_k2:((List.range 5).all fun n=>stK (kwS "insert" 10) (stmtP (nI 4) tableZ (.atom 2) (.str []) (.str []) (.slice 4 ((List.range (n+1)).map fun m=>v4A (160+4*m))) E7.zero.L E7.zero.L) (insF2 (n+1)))=true:=by kernel_rfl
end Go.Proofs.YtdlkibeljkapeaaGreatDoor.Den
namespace Go.Proofs.YtdlkibeljkapeaaGreatDoor.Den
open Go Go.RowKit
inductive It where
 | w (w:List UInt8)
 | m (k:Nat)
 | x (e:Xp)
 | v (v:V4) (t:List UInt8)
def It.txt:It→List UInt8
 | .w a=>a
 | .m k=>mkW k
 | .x e=>e.txt
 | .v _ t=>t
def It.wr:It→List UInt8→Prop
 | .x e,t=>Xp.wr e t
 | it,t=>t=it.txt
def wdB:List UInt8→Bool
 | c::r=>isSmall c&&(r.all isInner&&Nat.ble r.length 11)
 | []=>false
def It.wf:It→Prop
 | .w a=>wdB a=true
 | .m k=>k < 11∧k≠7
 | .x e=>e.wf∧e.dpt≤12
 | .v b t=>LitOk b t∧nobl t
abbrev Pc:=Bool × It
def gapP (b:Bool) (g:List UInt8):Prop:=match b with|true=>Gap g|false=>g=[]
def Wr:List Pc→List UInt8→Prop
 | [],x=>x=[]
 | p::ps,x=>∃ g t r,gapP p.1 g∧p.2.wr t∧Wr ps r∧x=g++(t++r)
def sp (b:Bool):List UInt8:=match b with|true=>[32]|false=>[]
def pTxt:List Pc→List UInt8
 | []=>[]
 | p::ps=>sp p.1++(p.2.txt++pTxt ps)
def endW:List UInt8→Bool
 | []=>true
 | c::_=>!isInner c&&c != 39
def jn:It→Pc→Bool
 | .m _,_=>true
 | .w _,(_, .m _)=>true
 | .w _,(b,_)=>b
 | _,(b, .m k)=>b||(Nat.beq k 3||(Nat.beq k 4||Nat.beq k 5))
 | _,(b,_)=>b
def adj:List Pc→Bool
 | p::q::r=>jn p.2 q&&adj (q::r)
 | _=>true
def ItAt (s:List UInt8) (i j:Nat):It→Prop
 | .w w=>∃ a,Rd s i (wordSg w a) j
 | .m k=>∃ a,Rd s i (markSg k a) j
 | .x e=>AnyAt s i j 0 e.e7
 | .v v _=>LitAt s i j v
def Chain (s:List UInt8):List Pc→Nat→Nat→Prop
 | [],i,j=>i=j
 | p::ps,i,j=>∃ k,ItAt s i k p.2∧Chain s ps k j
theorem Chain.append {s:List UInt8}:∀ {ps qs:List Pc} {i j:Nat},Chain s (ps++qs) i j→∃ k,Chain s ps i k∧Chain s qs k j
 | [],_,i,_,h=>⟨i,rfl,h⟩
 | _::_,_,_,_,⟨k,h1,h2⟩=>by
  obtain ⟨m,h3,h4⟩:=Chain.append h2
  exact ⟨m,⟨k,h1,h3⟩,h4⟩
theorem endOk_W:∀ {t:List UInt8},endOk t=true→endW t=true
 | [],_=>rfl
 | c::r,h=>by
  simp only [endOk,Bool.or_eq_true,beq_iff_eq] at h
  rcases h with (((rfl|rfl)|rfl)|rfl)|rfl<;>rfl
theorem mk_head:∀ k,k < 11→∃ c t,mkW k=c::t∧isInner c=false∧c≠39:=by
 intro k hk
 have:((List.range 11).all fun m=>match mkW m with|c::_=>!isInner c&&c != 39 | []=>false)=true:=by decide
 have:=List.all_eq_true.1 this k (by rw [List.mem_range];exact hk)
 cases hq:mkW k with
 | nil=>rw [hq] at this;cases this
 | cons c t =>
  rw [hq] at this
  simp only [Bool.and_eq_true,Bool.not_eq_true',bne_iff_ne] at this
  exact ⟨c,t,rfl,this.1,this.2⟩
def folOk (it:It) (rest:List UInt8):Prop:=match it with | .m _=>True | .w _=>endW rest=true|_=>endOk rest=true
theorem next_end {p:Pc} {ps:List Pc} {x rest:List UInt8} (h:Wr (p::ps) x) (hb:p.1=true):endOk (x++rest)=true:=by
 obtain ⟨g,t,r,hg,_,_,rfl⟩:=h
 rw [hb] at hg
 obtain ⟨q,rfl,_⟩:=hg
 rfl
theorem next_mark {b:Bool} {k:Nat} (hk:k < 11) {ps:List Pc} {x rest:List UInt8} (h:Wr ((b, .m k)::ps) x):endW (x++rest)=true∧((Nat.beq k 3||(Nat.beq k 4||Nat.beq k 5))=true→endOk (x++rest)=true):=by
 cases b with
 | true=>exact ⟨endOk_W (next_end h rfl),fun _=>next_end h rfl⟩
 | false =>
  obtain ⟨g,t,r,hg,ht,_,rfl⟩:=h
  obtain rfl:g=[]:=hg
  obtain rfl:t=mkW k:=ht
  constructor
  ·obtain ⟨c,u,hc,h1,h2⟩:=mk_head k hk
   rw [hc]
   show (!isInner c&&c != 39)=true
   rw [h1]
   simp [h2]
  ·intro h3
   simp only [Bool.or_eq_true,Nat.beq_eq] at h3
   rcases h3 with rfl|rfl|rfl<;>rfl
theorem endW_facts:∀ {t:List UInt8},endW t=true→headNot isInner t=true∧t[0]? ≠ some 39
 | [],_=>⟨rfl,by simp⟩
 | c::r,h=>by
  simp only [endW,Bool.and_eq_true,Bool.not_eq_true',bne_iff_ne] at h
  exact ⟨by show (!isInner c)=true;rw [h.1];rfl,by simpa using h.2⟩
section
variable {s:List UInt8} (hs:s.length≤4000)
include hs
theorem word_at {w:List UInt8} (hw:wdB w=true) {i:Nat} {g rest:List UInt8} (hi:i≤s.length) (hg:g.all isBlank=true) (he:endW rest=true) (hd:s.drop i=g++(w++rest)):∃ j,ItAt s i j (.w w)∧s.drop j=rest∧j≤s.length:=by
 cases w with
 | nil=>cases hw
 | cons c r =>
  simp only [wdB,Bool.and_eq_true,Nat.ble_eq] at hw
  obtain ⟨h1,h2⟩:=endW_facts he
  have h:=rd_word (s:=s) (by omega) hi hd hg hw.1 hw.2.1 h1 (fun _ _=>h2) hw.2.2
  have hd2:=drop_more (g:=c::r) (drop_more hd)
  have hl:i+g.length+(c::r).length≤s.length:=by
   have:=congrArg List.length hd
   simp only [List.length_drop,List.length_append] at this
   omega
  exact ⟨_,⟨_,h⟩,hd2,hl⟩
theorem mark_at {k:Nat} (hk:k < 11∧k≠7) {i:Nat} {g rest:List UInt8} (hi:i≤s.length) (hg:g.all isBlank=true) (hd:s.drop i=g++(mkW k++rest)):∃ j,ItAt s i j (.m k)∧s.drop j=rest∧j≤s.length:=by
 have h:=rd_mark' (s:=s) (by omega) hi k hk.1 hk.2 hd hg
 have hd2:=drop_more (g:=mkW k) (drop_more hd)
 have hl:i+g.length+(mkW k).length≤s.length:=by
  have:=congrArg List.length hd
  simp only [List.length_drop,List.length_append] at this
  omega
 have e:(mkW k).length=if k < 2 then 2 else 1:=by
  have:∀ k,k < 11→(mkW k).length=if k < 2 then 2 else 1:=by decide
  exact this k hk.1
 rw [e] at hd2 hl
 exact ⟨_,⟨_,h⟩,hd2,hl⟩
theorem expr_at {e:Xp} (he:e.wf∧e.dpt≤12) {t:List UInt8} (ht:e.wr t) {i:Nat} {g rest:List UInt8} (hi:i≤s.length) (hg:g.all isBlank=true) (hr:endOk rest=true) (hd:s.drop i=g++(t++rest)):∃ j,ItAt s i j (.x e)∧s.drop j=rest∧j≤s.length:=by
 have h:=xp_any hs e he.1 ht (dp:=0) hi hg hr hd (by omega)
 have hl:i+g.length+t.length≤s.length:=by
  have:=congrArg List.length hd
  simp only [List.length_drop,List.length_append] at this
  omega
 exact ⟨_,h,drop_more (g:=t) (drop_more hd),hl⟩
theorem val_at {v:V4} {t:List UInt8} (he:LitOk v t) {i:Nat} {g rest:List UInt8} (hi:i≤s.length) (hg:g.all isBlank=true) (hr:endOk rest=true) (hd:s.drop i=g++(t++rest)):∃ j,ItAt s i j (.v v t)∧s.drop j=rest∧j≤s.length:=by
 have h:=he.rd hs hi hg hr hd
 have hl:i+g.length+t.length≤s.length:=by
  have:=congrArg List.length hd
  simp only [List.length_drop,List.length_append] at this
  omega
 exact ⟨_,h,drop_more (g:=t) (drop_more hd),hl⟩
theorem item_at {it:It} (hw:it.wf) {t:List UInt8} (ht:it.wr t) {i:Nat} {g rest:List UInt8} (hi:i≤s.length) (hg:g.all isBlank=true) (hr:folOk it rest) (hd:s.drop i=g++(t++rest)):∃ j,ItAt s i j it∧s.drop j=rest∧j≤s.length:=by
 match it,hw,ht,hr with
 | .w w,hw,ht,hr =>
  obtain rfl:t=w:=ht
  exact word_at hs hw hi hg hr hd
 | .m k,hw,ht,_ =>
  obtain rfl:t=mkW k:=ht
  exact mark_at hs hw hi hg hd
 | .x e,hw,ht,hr=>exact expr_at hs hw ht hi hg hr hd
 | .v v t',hw,ht,hr =>
  obtain rfl:t=t':=ht
  exact val_at hs hw.1 hi hg hr hd
theorem chain_of:∀ (ps:List Pc),ps≠[]→(∀ p∈ps,p.2.wf)→adj ps=true→∀ {x g0 rest:List UInt8} {i:Nat},Wr ps x→i≤s.length→g0.all isBlank=true→endOk rest=true→s.drop i=g0++(x++rest)→∃ j,Chain s ps i j∧s.drop j=rest∧j≤s.length
 | [],h,_,_,_,_,_,_,_,_,_,_,_=>absurd rfl h
 | (b,it)::ps,_,hw,ha,x,g0,rest,i,hx,hi,hg0,hr,hd=>by
  have hx':=hx
  obtain ⟨g,t,r,hg,ht,hps,rfl⟩:=hx
  have hgb:(g0++g).all isBlank=true:=by
   rw [List.all_append,hg0,Bool.true_and]
   cases b with
   | true =>
    obtain ⟨q,rfl,hq⟩:=hg
    simpa [isBlank] using hq
   | false =>
    obtain rfl:g=[]:=hg
    rfl
  have hd':s.drop i=(g0++g)++(t++(r++rest)):=by rw [hd];simp
  have hit:=hw (b,it) (by simp)
  have hfol:folOk it (r++rest):=by
   cases ps with
   | nil =>
    obtain rfl:r=[]:=hps
    rw [List.nil_append]
    cases it with
    | w _=>exact endOk_W hr
    | m _=>trivial
    | x _=>exact hr
    | v _ _=>exact hr
   | cons p qs =>
    obtain ⟨b2,it2⟩:=p
    have hw2:=hw (b2,it2) (by simp)
    simp only [adj,Bool.and_eq_true] at ha
    have hj:=ha.1
    cases it with
    | m k=>trivial
    | w a =>
     cases it2 with
     | m k=>exact (next_mark hw2.1 hps).1
     | w _=>exact endOk_W (next_end hps hj)
     | x _=>exact endOk_W (next_end hps hj)
     | v _ _=>exact endOk_W (next_end hps hj)
    | x e =>
     cases it2 with
     | m k =>
      simp only [jn,Bool.or_eq_true] at hj
      rcases hj with h|h
      ·exact next_end hps h
      ·exact (next_mark hw2.1 hps).2 (by simpa using h)
     | w _=>exact next_end hps hj
     | x _=>exact next_end hps hj
     | v _ _=>exact next_end hps hj
    | v c tt =>
     cases it2 with
     | m k =>
      simp only [jn,Bool.or_eq_true] at hj
      rcases hj with h|h
      ·exact next_end hps h
      ·exact (next_mark hw2.1 hps).2 (by simpa using h)
     | w _=>exact next_end hps hj
     | x _=>exact next_end hps hj
     | v _ _=>exact next_end hps hj
  obtain ⟨k,h1,h2,h3⟩:=item_at hs hit ht hi hgb hfol hd'
  cases ps with
  | nil =>
   obtain rfl:r=[]:=hps
   exact ⟨k,⟨k,h1,rfl⟩,h2,h3⟩
  | cons p qs =>
   have ha2:adj (p::qs)=true:=by
    simp only [adj,Bool.and_eq_true] at ha
    exact ha.2
   obtain ⟨j,h4,h5,h6⟩:=chain_of (p::qs) (by simp) (fun q hq=>hw q (by simp at hq ⊢;exact .inr hq)) ha2 (g0:=[]) hps h3 rfl hr h2
   exact ⟨j,⟨k,h1,h4⟩,h5,h6⟩
end
end Go.Proofs.YtdlkibeljkapeaaGreatDoor.Den
namespace Go.Proofs.YtdlkibeljkapeaaGreatDoor.Den
open Go Go.RowKit
def stP (k:Int) (T:List PV) (nm col dst:List UInt8) (row:PV) (e w:E7):PV:=stmtP (nI k) T (.str nm) (.str col) (.str dst) row e.L w.L
def zok (z:Sg):Prop:=isM z (kw "where")=false∧∀ w∈stops,isM z (kw w)=false
def StAt (s:List UInt8) (i j:Nat) (S:PV):Prop:=∃ y tu,Rd s i y tu∧y.k≠0∧∀ z tz,Rd s j z tz→zok z→EvS PG f_sql_parser_stmt [.box 0 0] (okL s y tu 0) S (okL s z tz 0)
theorem kw_rd {s:List UInt8} {i j a:Nat} {w:String} (hk:keysL.contains (kw w)=true) (h:Rd s i (wordSg (kw w) a) j):Rd s i ⟨1,a,kw w,v0,0⟩ j:=by
 unfold wordSg at h
 rw [hk] at h
 exact h
theorem nm_rd {s:List UInt8} {i j a:Nat} {w:List UInt8} (hk:keysL.contains w=false) (h:Rd s i (wordSg w a) j):Rd s i ⟨2,a,w,v0,0⟩ j:=by
 unfold wordSg at h
 rw [hk] at h
 exact h
def p30 (l:List PV):List PV:=l++List.replicate (30 - l.length) (nI 0)
def stNu (s nm col dst:List UInt8) (P:List PV) (y1:Sg) (t1:Nat) (y2:Sg) (t2:Nat) (e w:E7) (z:Sg) (tz:Nat):List PV :=
 [.str s,nI 0, .str nm, .str col, .str dst,nI 0,nI 0,nI 0,nI 0,nI 0]++(P++(sv y1 t1++([nI 0,nI 0]++(sv y2 t2++([nI 0,nI 0]++(e.L++([nI 0,nI 0,nI 0]++(w.L++([nI 0,nI 0,nI 0]++sv z tz)))))))))
theorem stNu_ok {s nm col dst:List UInt8} {P:List PV} {y1:Sg} {t1:Nat} {y2:Sg} {t2:Nat} {e w:E7} {z:Sg} {tz:Nat} (hP:(P.all fun p=>p.clean&&p.pure)=true) (he:e.ok=true) (hw:w.ok=true):NuOk (nuL (stNu s nm col dst P y1 t1 y2 t2 e w z tz)):=by
 refine nuL_okB ?_
 have h1:(e.L.all fun p=>p.clean&&p.pure)=true:=he
 have h2:(w.L.all fun p=>p.clean&&p.pure)=true:=hw
 unfold stNu
 simp only [List.all_append,hP,h1,h2]
 rfl
def whP (w:Option Xp):List Pc:=match w with|none=>[]|some e=>[(true, .w (kw "where")),(true, .x e)]
def wX (w:Option Xp):E7:=match w with|none=>E7.zero|some e=>e.e7
theorem wX_ok (w:Option Xp):(wX w).ok=true:=by
 cases w with
 | none=>rfl
 | some e=>exact e7_ok e
theorem stP_pure {k:Int} {nm col dst:List UInt8} {e w:E7} (he:e.ok=true) (hw:w.ok=true):(stP k tableZ nm col dst .nilslice e w).pure=true:=by
 simp only [E7.ok,E7.L,List.all_cons,List.all_nil,Bool.and_eq_true,Bool.and_true] at he hw
 simp [stP,stmtP,tableZ,E7.L,PV.pure,PV.pureL,he,hw]
theorem where_stops (a:Int):∀ w∈stops,isM ⟨1,a,kw "where", v0,0⟩ (kw w)=false:=by
 intro w hw
 simp only [stops,List.mem_cons,List.not_mem_nil,or_false] at hw
 rcases hw with rfl|rfl|rfl|rfl|rfl|rfl|rfl|rfl|rfl|rfl<;>rfl
section
variable {s:List UInt8} {i j:Nat}
theorem st_drop {nm:List UInt8} (hn:keysL.contains nm=false) (h:Chain s [(false, .w (kw "drop")),(true, .w (kw "table")),(true, .w nm)] i j):StAt s i j (stP 2 tableZ nm [] [] .nilslice E7.zero E7.zero):=by
 obtain ⟨t1,⟨a1,r1⟩,t2,⟨a2,r2⟩,t3,⟨a3,r3⟩,rfl⟩:=h
 have r1:=kw_rd (by decide +kernel) r1
 have r2:=kw_rd (by decide +kernel) r2
 have r3:=nm_rd hn r3
 refine ⟨_,_,r1,show (1:Int)≠0 by decide,fun z tz hz _=>?_⟩
 exact EvS.facts (nu:=nuL (stNu s nm [] [] (p30 [nI a1,nI t1,nI a2,nI t2,nI a3,nI t3]) z tz z tz E7.zero E7.zero z tz)) (args:=[.box 0 0]) (s:=kwS "drop" 10) (s':=gS 80) prog_ok (stNu_ok rfl rfl rfl) (okRS_eq drop_k)
  ⟨fst1 (next_ev ⟨1,a1,kw "drop", v0,0⟩ 0 r2) rfl rfl rfl rfl rfl,fst1 (next_ev ⟨1,a2,kw "table", v0,0⟩ 0 r3) rfl rfl rfl rfl rfl,fst1 (next_ev ⟨2,a3,nm,v0,0⟩ 0 hz) rfl rfl rfl rfl rfl,trivial⟩ rfl rfl rfl
theorem st_link {nm col dst:List UInt8} (hn:keysL.contains nm=false) (hc:keysL.contains col=false) (hd:keysL.contains dst=false)
  (h:Chain s [(false, .w (kw "alter")),(true, .w (kw "table")),(true, .w nm),(true, .w (kw "add")),(true, .w (kw "foreign")),(true, .w (kw "key")),(true, .m 2),(false, .w col),(false, .m 3),(true, .w (kw "references")),(true, .w dst)] i j):StAt s i j (stP 3 tableZ nm col dst .nilslice E7.zero E7.zero):=by
 obtain ⟨t1,⟨a1,r1⟩,t2,⟨a2,r2⟩,t3,⟨a3,r3⟩,t4,⟨a4,r4⟩,t5,⟨a5,r5⟩,t6,⟨a6,r6⟩,t7,⟨a7,r7⟩,t8,⟨a8,r8⟩,t9,⟨a9,r9⟩,t10,⟨a10,r10⟩,t11,⟨a11,r11⟩,rfl⟩:=h
 have r1:=kw_rd (by decide +kernel) r1
 have r2:=kw_rd (by decide +kernel) r2
 have r3:=nm_rd hn r3
 have r4:=kw_rd (by decide +kernel) r4
 have r5:=kw_rd (by decide +kernel) r5
 have r6:=kw_rd (by decide +kernel) r6
 have r8:=nm_rd hc r8
 have r10:=kw_rd (by decide +kernel) r10
 have r11:=nm_rd hd r11
 refine ⟨_,_,r1,show (1:Int)≠0 by decide,fun z tz hz _=>?_⟩
 exact EvS.facts (nu:=nuL (stNu s nm col dst (p30 [nI a1,nI t1,nI a2,nI t2,nI a3,nI t3,nI a4,nI t4,nI a5,nI t5,nI a6,nI t6,nI a7,nI t7,nI a8,nI t8,nI a9,nI t9,nI a10,nI t10,nI a11,nI t11]) z tz z tz E7.zero E7.zero z tz)) (args:=[.box 0 0]) (s:=kwS "alter" 10) (s':=gS 80) prog_ok (stNu_ok rfl rfl rfl) (okRS_eq link_k)
  ⟨fst1 (next_ev ⟨1,a1,kw "alter", v0,0⟩ 0 r2) rfl rfl rfl rfl rfl,fst1 (next_ev ⟨1,a2,kw "table", v0,0⟩ 0 r3) rfl rfl rfl rfl rfl,fst1 (next_ev ⟨2,a3,nm,v0,0⟩ 0 r4) rfl rfl rfl rfl rfl,fst1 (next_ev ⟨1,a4,kw "add", v0,0⟩ 0 r5) rfl rfl rfl rfl rfl,fst1 (next_ev ⟨1,a5,kw "foreign", v0,0⟩ 0 r6) rfl rfl rfl rfl rfl,fst1 (next_ev ⟨1,a6,kw "key", v0,0⟩ 0 r7) rfl rfl rfl rfl rfl,
   fst1 (next_ev (markSg 2 a7) 0 r8) rfl rfl rfl rfl rfl,fst1 (next_ev ⟨2,a8,col,v0,0⟩ 0 r9) rfl rfl rfl rfl rfl,fst1 (next_ev (markSg 3 a9) 0 r10) rfl rfl rfl rfl rfl,fst1 (next_ev ⟨1,a10,kw "references", v0,0⟩ 0 r11) rfl rfl rfl rfl rfl,fst1 (next_ev ⟨2,a11,dst,v0,0⟩ 0 hz) rfl rfl rfl rfl rfl,trivial⟩ rfl rfl rfl
theorem st_del {nm:List UInt8} (hn:keysL.contains nm=false) {w:Option Xp} (h:Chain s ([(false, .w (kw "delete")),(true, .w (kw "from")),(true, .w nm)]++whP w) i j):StAt s i j (stP 6 tableZ nm [] [] .nilslice E7.zero (wX w)):=by
 obtain ⟨t1,⟨a1,r1⟩,t2,⟨a2,r2⟩,t3,⟨a3,r3⟩,hw⟩:=h
 have r1:=kw_rd (by decide +kernel) r1
 have r2:=kw_rd (by decide +kernel) r2
 have r3:=nm_rd hn r3
 refine ⟨_,_,r1,show (1:Int)≠0 by decide,fun z tz hz hk=>?_⟩
 have hp:=stP_pure (k:=6) (nm:=nm) (col:=[]) (dst:=[]) (e:=E7.zero) rfl (wX_ok w)
 cases w with
 | none =>
  obtain rfl:t3=j:=hw
  exact EvS.facts (nu:=nuL (stNu s nm [] [] (p30 [nI a1,nI t1,nI a2,nI t2,nI a3,nI t3]) z tz z tz E7.zero E7.zero z tz)) (args:=[.box 0 0]) (s:=kwS "delete" 10) (s':=gS 80) prog_ok (stNu_ok rfl rfl rfl) (okRS_eq (bl_all del_k false))
   ⟨fst1 (next_ev ⟨1,a1,kw "delete", v0,0⟩ 0 r2) rfl rfl rfl rfl rfl,fst1 (next_ev ⟨1,a2,kw "from", v0,0⟩ 0 r3) rfl rfl rfl rfl rfl,fst1 (next_ev ⟨2,a3,nm,v0,0⟩ 0 hz) rfl rfl rfl rfl rfl,fIs rfl hk.1 rfl,trivial⟩ rfl rfl rfl
 | some e =>
  obtain ⟨t4,⟨a4,r4⟩,t5,⟨y,tu,hy,ha⟩,rfl⟩:=hw
  have r4:=kw_rd (by decide +kernel) r4
  obtain ⟨h1,h2⟩:=ha z tz hz hk.2
  exact EvS.facts (nu:=nuL (stNu s nm [] [] (p30 [nI a1,nI t1,nI a2,nI t2,nI a3,nI t3,nI 0,nI 0,nI 0,nI 0,nI 0,nI 0,nI 0,nI 0,nI 0,nI 0,nI 0,nI 0,nI 0,nI 0,nI a4,nI t4]) z tz y tu E7.zero e.e7 z tz)) (args:=[.box 0 0]) (s:=kwS "delete" 10) (s':=gS 80) prog_ok (stNu_ok rfl rfl (e7_ok e)) (okRS_eq (bl_all del_k true))
   ⟨fst1 (next_ev ⟨1,a1,kw "delete", v0,0⟩ 0 r2) rfl rfl rfl rfl rfl,fst1 (next_ev ⟨1,a2,kw "from", v0,0⟩ 0 r3) rfl rfl rfl rfl rfl,fst1 (next_ev ⟨2,a3,nm,v0,0⟩ 0 r4) rfl rfl rfl rfl rfl,fst1 (next_ev ⟨1,a4,kw "where", v0,0⟩ 0 hy) rfl rfl rfl rfl rfl,fst1 h1 rfl rfl rfl rfl rfl,trivial⟩ rfl rfl (by rw [Bool.and_eq_true];exact ⟨hp,rfl⟩)
theorem st_slc {nm:List UInt8} (hn:keysL.contains nm=false) {w:Option Xp} (h:Chain s ([(false, .w (kw "select")),(true, .m 10),(true, .w (kw "from")),(true, .w nm)]++whP w) i j):StAt s i j (stP 7 tableZ nm [] [] .nilslice E7.zero (wX w)):=by
 obtain ⟨t1,⟨a1,r1⟩,t2,⟨a2,r2⟩,t3,⟨a3,r3⟩,t4,⟨a4,r4⟩,hw⟩:=h
 have r1:=kw_rd (by decide +kernel) r1
 have r3:=kw_rd (by decide +kernel) r3
 have r4:=nm_rd hn r4
 refine ⟨_,_,r1,show (1:Int)≠0 by decide,fun z tz hz hk=>?_⟩
 have hp:=stP_pure (k:=7) (nm:=nm) (col:=[]) (dst:=[]) (e:=E7.zero) rfl (wX_ok w)
 cases w with
 | none =>
  obtain rfl:t4=j:=hw
  exact EvS.facts (nu:=nuL (stNu s nm [] [] (p30 [nI a1,nI t1,nI a2,nI t2,nI a3,nI t3,nI a4,nI t4]) z tz z tz E7.zero E7.zero z tz)) (args:=[.box 0 0]) (s:=kwS "select" 10) (s':=gS 80) prog_ok (stNu_ok rfl rfl rfl) (okRS_eq (bl_all slc_k false))
   ⟨fst1 (next_ev ⟨1,a1,kw "select", v0,0⟩ 0 r2) rfl rfl rfl rfl rfl,fst1 (next_ev (markSg 10 a2) 0 r3) rfl rfl rfl rfl rfl,fst1 (next_ev ⟨1,a3,kw "from", v0,0⟩ 0 r4) rfl rfl rfl rfl rfl,fst1 (next_ev ⟨2,a4,nm,v0,0⟩ 0 hz) rfl rfl rfl rfl rfl,fIs rfl hk.1 rfl,trivial⟩ rfl rfl rfl
 | some e =>
  obtain ⟨t5,⟨a5,r5⟩,t6,⟨y,tu,hy,ha⟩,rfl⟩:=hw
  have r5:=kw_rd (by decide +kernel) r5
  obtain ⟨h1,h2⟩:=ha z tz hz hk.2
  exact EvS.facts (nu:=nuL (stNu s nm [] [] (p30 [nI a1,nI t1,nI a2,nI t2,nI a3,nI t3,nI a4,nI t4,nI 0,nI 0,nI 0,nI 0,nI 0,nI 0,nI 0,nI 0,nI 0,nI 0,nI 0,nI 0,nI a5,nI t5]) z tz y tu E7.zero e.e7 z tz)) (args:=[.box 0 0]) (s:=kwS "select" 10) (s':=gS 80) prog_ok (stNu_ok rfl rfl (e7_ok e)) (okRS_eq (bl_all slc_k true))
   ⟨fst1 (next_ev ⟨1,a1,kw "select", v0,0⟩ 0 r2) rfl rfl rfl rfl rfl,fst1 (next_ev (markSg 10 a2) 0 r3) rfl rfl rfl rfl rfl,fst1 (next_ev ⟨1,a3,kw "from", v0,0⟩ 0 r4) rfl rfl rfl rfl rfl,fst1 (next_ev ⟨2,a4,nm,v0,0⟩ 0 r5) rfl rfl rfl rfl rfl,fst1 (next_ev ⟨1,a5,kw "where", v0,0⟩ 0 hy) rfl rfl rfl rfl rfl,fst1 h1 rfl rfl rfl rfl rfl,trivial⟩ rfl rfl (by rw [Bool.and_eq_true];exact ⟨hp,rfl⟩)
theorem st_cou {nm:List UInt8} (hn:keysL.contains nm=false) {w:Option Xp} (h:Chain s ([(false, .w (kw "select")),(true, .w (kw "count")),(false, .m 2),(false, .m 10),(false, .m 3),(true, .w (kw "from")),(true, .w nm)]++whP w) i j):StAt s i j (stP 8 tableZ nm [] [] .nilslice E7.zero (wX w)):=by
 obtain ⟨t1,⟨a1,r1⟩,t2,⟨a2,r2⟩,t3,⟨a3,r3⟩,t4,⟨a4,r4⟩,t5,⟨a5,r5⟩,t6,⟨a6,r6⟩,t7,⟨a7,r7⟩,hw⟩:=h
 have r1:=kw_rd (by decide +kernel) r1
 have r2:=kw_rd (by decide +kernel) r2
 have r6:=kw_rd (by decide +kernel) r6
 have r7:=nm_rd hn r7
 refine ⟨_,_,r1,show (1:Int)≠0 by decide,fun z tz hz hk=>?_⟩
 have hp:=stP_pure (k:=8) (nm:=nm) (col:=[]) (dst:=[]) (e:=E7.zero) rfl (wX_ok w)
 cases w with
 | none =>
  obtain rfl:t7=j:=hw
  exact EvS.facts (nu:=nuL (stNu s nm [] [] (p30 [nI a1,nI t1,nI a2,nI t2,nI a3,nI t3,nI a4,nI t4,nI a5,nI t5,nI a6,nI t6,nI a7,nI t7]) z tz z tz E7.zero E7.zero z tz)) (args:=[.box 0 0]) (s:=kwS "select" 10) (s':=gS 80) prog_ok (stNu_ok rfl rfl rfl) (okRS_eq (bl_all cou_k false))
   ⟨fst1 (next_ev ⟨1,a1,kw "select", v0,0⟩ 0 r2) rfl rfl rfl rfl rfl,fst1 (next_ev ⟨1,a2,kw "count", v0,0⟩ 0 r3) rfl rfl rfl rfl rfl,fst1 (next_ev (markSg 2 a3) 0 r4) rfl rfl rfl rfl rfl,fst1 (next_ev (markSg 10 a4) 0 r5) rfl rfl rfl rfl rfl,fst1 (next_ev (markSg 3 a5) 0 r6) rfl rfl rfl rfl rfl,fst1 (next_ev ⟨1,a6,kw "from", v0,0⟩ 0 r7) rfl rfl rfl rfl rfl,fst1 (next_ev ⟨2,a7,nm,v0,0⟩ 0 hz) rfl rfl rfl rfl rfl,fIs rfl hk.1 rfl,trivial⟩ rfl rfl rfl
 | some e =>
  obtain ⟨t8,⟨a8,r8⟩,t9,⟨y,tu,hy,ha⟩,rfl⟩:=hw
  have r8:=kw_rd (by decide +kernel) r8
  obtain ⟨h1,h2⟩:=ha z tz hz hk.2
  exact EvS.facts (nu:=nuL (stNu s nm [] [] (p30 [nI a1,nI t1,nI a2,nI t2,nI a3,nI t3,nI a4,nI t4,nI a5,nI t5,nI a6,nI t6,nI a7,nI t7,nI 0,nI 0,nI 0,nI 0,nI 0,nI 0,nI a8,nI t8]) z tz y tu E7.zero e.e7 z tz)) (args:=[.box 0 0]) (s:=kwS "select" 10) (s':=gS 80) prog_ok (stNu_ok rfl rfl (e7_ok e)) (okRS_eq (bl_all cou_k true))
   ⟨fst1 (next_ev ⟨1,a1,kw "select", v0,0⟩ 0 r2) rfl rfl rfl rfl rfl,fst1 (next_ev ⟨1,a2,kw "count", v0,0⟩ 0 r3) rfl rfl rfl rfl rfl,fst1 (next_ev (markSg 2 a3) 0 r4) rfl rfl rfl rfl rfl,fst1 (next_ev (markSg 10 a4) 0 r5) rfl rfl rfl rfl rfl,fst1 (next_ev (markSg 3 a5) 0 r6) rfl rfl rfl rfl rfl,fst1 (next_ev ⟨1,a6,kw "from", v0,0⟩ 0 r7) rfl rfl rfl rfl rfl,fst1 (next_ev ⟨2,a7,nm,v0,0⟩ 0 r8) rfl rfl rfl rfl rfl,fst1 (next_ev ⟨1,a8,kw "where", v0,0⟩ 0 hy) rfl rfl rfl rfl rfl,fst1 h1 rfl rfl rfl rfl rfl,trivial⟩ rfl rfl (by rw [Bool.and_eq_true];exact ⟨hp,rfl⟩)
theorem st_upd {nm col:List UInt8} (hn:keysL.contains nm=false) (hc:keysL.contains col=false) {e:Xp} {w:Option Xp} (h:Chain s ([(false, .w (kw "update")),(true, .w nm),(true, .w (kw "set")),(true, .w col),(true, .m 6),(true, .x e)]++whP w) i j):StAt s i j (stP 5 tableZ nm col [] .nilslice e.e7 (wX w)):=by
 obtain ⟨t1,⟨a1,r1⟩,t2,⟨a2,r2⟩,t3,⟨a3,r3⟩,t4,⟨a4,r4⟩,t5,⟨a5,r5⟩,t6,⟨y1,tu1,hy1,ha1⟩,hw⟩:=h
 have r1:=kw_rd (by decide +kernel) r1
 have r2:=nm_rd hn r2
 have r3:=kw_rd (by decide +kernel) r3
 have r4:=nm_rd hc r4
 refine ⟨_,_,r1,show (1:Int)≠0 by decide,fun z tz hz hk=>?_⟩
 have hp:=stP_pure (k:=5) (nm:=nm) (col:=col) (dst:=[]) (e:=e.e7) (e7_ok e) (wX_ok w)
 cases w with
 | none =>
  obtain rfl:t6=j:=hw
  obtain ⟨h3,_⟩:=ha1 z tz hz hk.2
  exact EvS.facts (nu:=nuL (stNu s nm col [] (p30 [nI a1,nI t1,nI a2,nI t2,nI a3,nI t3,nI a4,nI t4,nI a5,nI t5]) y1 tu1 z tz e.e7 E7.zero z tz)) (args:=[.box 0 0]) (s:=kwS "update" 10) (s':=gS 80) prog_ok (stNu_ok rfl (e7_ok e) rfl) (okRS_eq (bl_all upd_k false))
   ⟨fst1 (next_ev ⟨1,a1,kw "update", v0,0⟩ 0 r2) rfl rfl rfl rfl rfl,fst1 (next_ev ⟨2,a2,nm,v0,0⟩ 0 r3) rfl rfl rfl rfl rfl,fst1 (next_ev ⟨1,a3,kw "set", v0,0⟩ 0 r4) rfl rfl rfl rfl rfl,fst1 (next_ev ⟨2,a4,col,v0,0⟩ 0 r5) rfl rfl rfl rfl rfl,fst1 (next_ev (markSg 6 a5) 0 hy1) rfl rfl rfl rfl rfl,fst1 h3 rfl rfl rfl rfl rfl,fIs rfl hk.1 rfl,trivial⟩ rfl rfl (by rw [Bool.and_eq_true];exact ⟨hp,rfl⟩)
 | some f =>
  obtain ⟨t8,⟨a8,r8⟩,t9,⟨y,tu,hy,ha⟩,rfl⟩:=hw
  have r8:=kw_rd (by decide +kernel) r8
  obtain ⟨h1,h2⟩:=ha z tz hz hk.2
  obtain ⟨h3,_⟩:=ha1 _ _ r8 (where_stops _)
  exact EvS.facts (nu:=nuL (stNu s nm col [] (p30 [nI a1,nI t1,nI a2,nI t2,nI a3,nI t3,nI a4,nI t4,nI a5,nI t5,nI 0,nI 0,nI 0,nI 0,nI 0,nI 0,nI 0,nI 0,nI 0,nI 0,nI a8,nI t8]) y1 tu1 y tu e.e7 f.e7 z tz)) (args:=[.box 0 0]) (s:=kwS "update" 10) (s':=gS 80) prog_ok (stNu_ok rfl (e7_ok e) (e7_ok f)) (okRS_eq (bl_all upd_k true))
   ⟨fst1 (next_ev ⟨1,a1,kw "update", v0,0⟩ 0 r2) rfl rfl rfl rfl rfl,fst1 (next_ev ⟨2,a2,nm,v0,0⟩ 0 r3) rfl rfl rfl rfl rfl,fst1 (next_ev ⟨1,a3,kw "set", v0,0⟩ 0 r4) rfl rfl rfl rfl rfl,fst1 (next_ev ⟨2,a4,col,v0,0⟩ 0 r5) rfl rfl rfl rfl rfl,fst1 (next_ev (markSg 6 a5) 0 hy1) rfl rfl rfl rfl rfl,fst1 h3 rfl rfl rfl rfl rfl,fst1 (next_ev ⟨1,a8,kw "where", v0,0⟩ 0 hy) rfl rfl rfl rfl rfl,fst1 h1 rfl rfl rfl rfl rfl,trivial⟩ rfl rfl (by rw [Bool.and_eq_true];exact ⟨hp,rfl⟩)
end
end Go.Proofs.YtdlkibeljkapeaaGreatDoor.Den
namespace Go.Proofs.YtdlkibeljkapeaaGreatDoor.Den
open Go Go.RowKit
def valsP:Bool→List (V4 × List UInt8)→List Pc
 | _,[]=>[]
 | b,[v]=>[(b, .v v.1 v.2)]
 | b,v::w::vs=>(b, .v v.1 v.2)::(false, .m 4)::valsP true (w::vs)
structure ValsF (s:List UInt8) (vs:List (V4 × List UInt8)) (i j:Nat) (P K A:Nat→Nat):Prop where
 p0:P 0=i
 k1:K (vs.length - 1)=j
 v:∀ m v,vs[m]? = some v→LitAt s (P m) (K m) v.1
 a:∀ m,m+1 < vs.length→Rd s (K m) (markSg 4 (A m)) (P (m+1))
theorem vals_fun {s:List UInt8}:∀ (vs:List (V4 × List UInt8)),vs≠[]→∀ {b:Bool} {i j:Nat},Chain s (valsP b vs) i j→∃ P K A,ValsF s vs i j P K A
 | [],h,_,_,_,_=>absurd rfl h
 | [v],_,b,i,j,⟨k,h,e⟩=>by
  obtain rfl:k=j:=e
  refine ⟨fun _=>i,fun _=>k,fun _=>0,rfl,rfl,fun m w hm=>?_,fun m hm=>by simp at hm⟩
  cases m with
  | zero =>
   simp at hm
   subst hm
   exact h
  | succ m=>simp at hm
 | v::w::vs,_,b,i,j,⟨k,h,l,⟨a,ha⟩,hc⟩=>by
  obtain ⟨P,K,A,q⟩:=vals_fun (w::vs) (by simp) hc
  refine ⟨fun m=>match m with|0=>i|m+1=>P m,fun m=>match m with|0=>k|m+1=>K m,fun m=>match m with|0=>a|m+1=>A m,rfl,q.k1,fun m x hm=>?_,fun m hm=>?_⟩
  ·cases m with
   | zero =>
    simp at hm
    subst hm
    exact h
   | succ m=>exact q.v m x (by simpa using hm)
  ·cases m with
   | zero =>
    show Rd s k (markSg 4 a) (P 0)
    rw [q.p0];exact ha
   | succ m=>exact q.a m (by simp at hm ⊢;omega)
def insNu (s nm:List UInt8) (P:List PV) (z:Sg) (tz:Nat) (Y:Nat→Sg) (T:Nat→Nat) (V:Nat→V4) (A B:Nat→Nat):List PV :=
 [.str s,nI 0, .str nm,nI 0,nI 0,nI 0,nI 0,nI 0,nI 0,nI 0]++(P++(List.replicate 40 (nI 0)++(sv z tz++(List.replicate 12 (nI 0)++(sv (Y 0) (T 0)++([nI 0,nI 0]++(sv (Y 1) (T 1)++([nI 0,nI 0]++(sv (Y 2) (T 2)++([nI 0,nI 0]++(sv (Y 3) (T 3)++([nI 0,nI 0]++(sv (Y 4) (T 4)++([nI 0,nI 0] ++
  (List.replicate 10 (nI 0)++(v4L (V 0)++(v4L (V 1)++(v4L (V 2)++(v4L (V 3)++(v4L (V 4)++(List.replicate 10 (nI 0)++[nI (A 0),nI (B 0),nI (A 1),nI (B 1),nI (A 2),nI (B 2),nI (A 3),nI (B 3)])))))))))))))))))))))
def rowP (vs:List (V4 × List UInt8)):PV:=.slice 4 (vs.map fun v=>Den.vP v.1)
theorem row_pure (vs:List (V4 × List UInt8)):PV.pureL (vs.map fun v=>Den.vP v.1)=true:=by
 induction vs with
 | nil=>rfl
 | cons v vs ih=>simp only [List.map_cons,PV.pureL,ih];rfl
set_option maxRecDepth 20000 in
set_option maxHeartbeats 4000000 in
theorem st_ins {s nm:List UInt8} {i j:Nat} (hn:keysL.contains nm=false) {vs:List (V4 × List UInt8)} (h0:vs≠[]) (h5:vs.length≤5)
  (h:Chain s ([(false, .w (kw "insert")),(true, .w (kw "into")),(true, .w nm),(true, .w (kw "values")),(true, .m 2)]++(valsP false vs++[(false, .m 3)])) i j):StAt s i j (stP 4 tableZ nm [] [] (rowP vs) E7.zero E7.zero):=by
 obtain ⟨t1,⟨a1,r1⟩,t2,⟨a2,r2⟩,t3,⟨a3,r3⟩,t4,⟨a4,r4⟩,t5,⟨a5,r5⟩,hc⟩:=h
 obtain ⟨k,hv,t6,⟨a6,r6⟩,rfl⟩:=Chain.append (ps:=valsP false vs) (qs:=[(false, .m 3)]) hc
 have r1:=kw_rd (by decide +kernel) r1
 have r2:=kw_rd (by decide +kernel) r2
 have r3:=nm_rd hn r3
 have r4:=kw_rd (by decide +kernel) r4
 obtain ⟨P,K,A,q⟩:=vals_fun vs h0 hv
 have hl:1≤vs.length:=by cases vs with|nil=>exact absurd rfl h0|cons a l=>simp
 obtain ⟨n,hn5,hlen⟩:∃ n,n < 5∧vs.length=n+1:=⟨vs.length - 1,by omega,by omega⟩
 refine ⟨_,_,r1,show (1:Int)≠0 by decide,fun z tz hz _=>?_⟩
 have each:∀ m,∃ Q:Sg × Nat,m < n+1→Rd s (P m) Q.1 Q.2∧∀ z tz,Rd s (K m) z tz→Const s Q.1 Q.2 0 (vs.getD m (v0,[])).1 z tz:=fun m=>by
  by_cases hm:m < n+1
  ·have hg:vs[m]? = some (vs.getD m (v0,[])):=by
    rw [List.getD_eq_getElem?_getD,List.getElem?_eq_getElem (by omega)];rfl
   obtain ⟨y,tu,h1,_,h2⟩:=q.v m _ hg
   exact ⟨(y,tu),fun _=>⟨h1,fun z tz hz=>h2 0 z tz hz⟩⟩
  ·exact ⟨(z,tz),fun h=>absurd h hm⟩
 obtain ⟨Q,hQ⟩:=Classical.axiomOfChoice each
 have hk:=okRS_eq (List.all_eq_true.1 ins_k2 n (by rw [List.mem_range];exact hn5))
 have hnu:NuOk (nuL (insNu s nm (p30 [nI a1,nI t1,nI a2,nI t2,nI a3,nI t3,nI a4,nI t4,nI a5,nI t5,nI a6,nI t6]) z tz (fun m=>(Q m).1) (fun m=>(Q m).2) (fun m=>(vs.getD m (v0,[])).1) A (fun m=>P (m+1)))):=nuL_okB rfl
 have hf:FactsOk PG (nuL (insNu s nm (p30 [nI a1,nI t1,nI a2,nI t2,nI a3,nI t3,nI a4,nI t4,nI a5,nI t5,nI a6,nI t6]) z tz (fun m=>(Q m).1) (fun m=>(Q m).2) (fun m=>(vs.getD m (v0,[])).1) A (fun m=>P (m+1)))) (insF2 (n+1)):=by
  unfold insF2
  have hp0:Rd s t5 (Q 0).1 (Q 0).2:=by have:=(hQ 0 (by omega)).1;rw [q.p0] at this;exact this
  refine FactsOk.append ⟨fst1 (next_ev ⟨1,a1,kw "insert", v0,0⟩ 0 r2) rfl rfl rfl rfl rfl,fst1 (next_ev ⟨1,a2,kw "into", v0,0⟩ 0 r3) rfl rfl rfl rfl rfl,fst1 (next_ev ⟨2,a3,nm,v0,0⟩ 0 r4) rfl rfl rfl rfl rfl,fst1 (next_ev ⟨1,a4,kw "values", v0,0⟩ 0 r5) rfl rfl rfl rfl rfl,
   fst1 (next_ev (markSg 2 a5) 0 hp0) rfl rfl rfl rfl rfl,fst1 (next_ev (markSg 3 a6) 0 hz) rfl rfl rfl rfl rfl,trivial⟩ (FactsOk.append (FactsOk.of ?_) (FactsOk.of ?_))
  ·intro f hf
   obtain ⟨m,hm,rfl⟩:=List.mem_map.1 hf
   rw [List.mem_range] at hm
   have hm5:m=0∨m=1∨m=2∨m=3∨m=4:=by omega
   by_cases hl:m=n
   ·have e:cmS (n+1) m=mkS 3 20:=if_pos (by omega)
    have hr:Rd s (K m) (markSg 3 a6) t6:=by
     have:=q.k1
     rw [hlen,show n+1 - 1=m by omega] at this
     rw [this];exact r6
    have hcc:=(hQ m hm).2 _ _ hr
    rw [e]
    rcases hm5 with rfl|rfl|rfl|rfl|rfl<;>exact fst1 hcc rfl rfl rfl rfl rfl
   ·have e:cmS (n+1) m=mkS 4 (190+2*m):=if_neg (by omega)
    have hcc:=(hQ m hm).2 _ _ (q.a m (by omega))
    rw [e]
    have hm4:m=0∨m=1∨m=2∨m=3:=by omega
    rcases hm4 with rfl|rfl|rfl|rfl<;>exact fst1 hcc rfl rfl rfl rfl rfl
  ·intro f hf
   obtain ⟨m,hm,rfl⟩:=List.mem_map.1 hf
   rw [List.mem_range] at hm
   have hcc:=next_ev (markSg 4 (A m)) (tt:=P (m+1)) 0 (hQ (m+1) (by omega)).1
   have hm4:m=0∨m=1∨m=2∨m=3:=by omega
   rcases hm4 with rfl|rfl|rfl|rfl<;>exact fst1 hcc rfl rfl rfl rfl rfl
 have hrow:rowP vs = .slice 4 ((List.range (n+1)).map fun m=>Den.vP (vs.getD m (v0,[])).1):=by
  unfold rowP
  congr 1
  refine List.ext_getElem? fun m=>?_
  rw [List.getElem?_map,List.getElem?_map]
  by_cases hm:m < n+1
  ·rw [List.getElem?_eq_getElem (by omega),List.getElem?_range hm]
   simp [List.getElem?_eq_getElem (show m < vs.length by omega)]
  ·rw [List.getElem?_eq_none (by omega),List.getElem?_eq_none (by simp;omega)]
   rfl
 rw [hrow]
 have hn':n=0∨n=1∨n=2∨n=3∨n=4:=by omega
 clear hrow q hQ
 rcases hn' with rfl|rfl|rfl|rfl|rfl
 all_goals exact EvS.facts (args:=[.box 0 0]) (s:=kwS "insert" 10) (s':=gS 80) prog_ok hnu hk hf rfl rfl rfl
end Go.Proofs.YtdlkibeljkapeaaGreatDoor.Den
namespace Go.Proofs.YtdlkibeljkapeaaGreatDoor.Den
open Go Go.RowKit
def cnm (i:Nat):List UInt8:=[UInt8.ofNat (97+i)]
def colX3 (i:Nat):PV:=.agg [.str (cnm i), .atom (1020+i), .atom (1024+i)]
inductive Tk where
 | kw (a:String)
 | nm (n:Nat)
 | nc (a:List UInt8)
 | mk (m:Nat)
def tkS (k:Int) (w:PV) (j:Nat):List Res:=okP (.atom 1000) (nI k) (.atom (1101+8*j)) w (nI 0) (nI 0) (nI 0) (.str []) (.atom (1107+8*j)) (nI 0)
def Tk.res:Tk→Nat→List Res
 | .kw a,j=>tkS 1 (.str (Den.kw a)) j
 | .nm n,j=>tkS 2 (.atom (1000+n)) j
 | .nc a,j=>tkS 2 (.str a) j
 | .mk m,j=>tkS 5 (.str (mkW m)) j
def gF (j:Nat):List Res:=okP (.atom 1000) (.atom (1000+j)) (.atom (1001+j)) (.atom (1002+j)) (.atom (1003+j)) (.atom (1004+j)) (.atom (1005+j)) (.atom (1006+j)) (.atom (1007+j)) (nI 0)
inductive CI where
 | tk (t:Tk)
 | col (i:Nat)
 | ex
 | ow (T:List PV) (r:Nat)
def CI.res:CI→Nat→List Res
 | .tk t,j=>t.res j
 | .col i,j=>Tk.res (.nc (cnm i)) j
 | .ex,j=>gF (100+8*j)
 | .ow _ _,j=>Tk.res (.mk 2) j
def CI.fact (c:CI) (j:Nat) (st:List Res):Fact:=match c with
 | .tk t=>nextT (t.res j) st
 | .col i=>.st f_sql_parser_column [.box 0 0] (Tk.res (.nc (cnm i)) j) (colX3 i) st
 | .ex=>anyT (gF (100+8*j)) 60 st
 | .ow T r=>.st f_sql_parser_ownBracketed [.box 0 0, .agg T] (Tk.res (.mk 2) j) (.atom (1000+r)) st
def ciF:List CI→Nat→List Fact
 | [],_=>[]
 | [c],j=>[c.fact j (gF 80)]
 | c::d::r,j=>c.fact j (d.res (j+1))::ciF (d::r) (j+1)
def colsX (k:Nat):PV:=.slice 3 ((List.range k).map colX3)
def uqX (m:Nat):PV:=match m with|0=>.nilslice|_=>.slice 1 ((List.range m).map fun i=>.atom (1010+i))
def lkX (m:Nat):PV:=match m with|0=>.nilslice|_=>.slice 2 ((List.range m).map fun i=>.agg [.atom (1012+i), .atom (1005+i)])
def ckX (ck:Bool):List PV:=match ck with|true=>eaL 60|false=>E7.zero.L
def tabX (k:Nat) (key uq:PV) (ck:List PV) (lk:PV):List PV:=[.atom 1002,colsX k,key,uq]++(ck++[lk])
abbrev ckw (a:String):CI:=.tk (.kw a)
abbrev cmk (m:Nat):CI:=.tk (.mk m)
def colI:Nat→Nat→List CI
 | 0,_=>[]
 | n+1,i=>.col i::cmk 4::colI n (i+1)
def uqI (k:Nat):Nat→Nat→List CI
 | 0,_=>[]
 | n+1,m=>cmk 4::ckw "unique" :: .ow (tabX k (.atom 1003) (uqX m) E7.zero.L .nilslice) (10+m)::uqI k n (m+1)
def ckI:Bool→List CI
 | true=>[cmk 4,ckw "check", cmk 2, .ex,cmk 3]
 | false=>[]
def lkI (k u:Nat) (ck:Bool):Nat→Nat→List CI
 | 0,_=>[]
 | n+1,m=>cmk 4::ckw "foreign" :: ckw "key" :: .ow (tabX k (.atom 1003) (uqX u) (ckX ck) (lkX m)) (12+m)::ckw "references" :: .tk (.nm (5+m))::lkI k u ck n (m+1)
def creI (k u:Nat) (ck:Bool) (l:Nat):List CI :=
 [ckw "create", ckw "table", .tk (.nm 2),cmk 2]++(colI k 0++([ckw "primary", ckw "key", .ow (tabX k (nI 0) .nilslice E7.zero.L .nilslice) 3]++(uqI k u 0++(ckI ck++(lkI k u ck l 0++[cmk 3])))))
def creR (k u:Nat) (ck:Bool) (l:Nat):PV:=stmtP (nI 1) (tabX k (.atom 1003) (uqX u) (ckX ck) (lkX l)) (.str []) (.str []) (.str []) .nilslice E7.zero.L E7.zero.L
noncomputable abbrev creK (k u:Nat) (ck:Bool) (l:Nat):Bool:=okRS (creR k u ck l) (gF 80) (callF PG (fOrc noOwn (ciF (creI k u ck l) 0)) 30 f_sql_parser_stmt [.box 0 0] (Tk.res (.kw "create") 0))
theorem cre_k1:((List.range 3).all fun u=>bl fun ck=>(List.range 3).all fun l=>creK 1 u ck l)=true:=by kernel_rfl
end Go.Proofs.YtdlkibeljkapeaaGreatDoor.Den
namespace Go.Proofs.YtdlkibeljkapeaaGreatDoor.Den
open Go Go.RowKit
theorem cre_k20:(bl fun ck=>(List.range 3).all fun l=>creK 2 0 ck l)=true:=by kernel_rfl
theorem cre_k21:(bl fun ck=>(List.range 3).all fun l=>creK 2 1 ck l)=true:=by kernel_rfl
theorem cre_k22:(bl fun ck=>(List.range 3).all fun l=>creK 2 2 ck l)=true:=by kernel_rfl
end Go.Proofs.YtdlkibeljkapeaaGreatDoor.Den
namespace Go.Proofs.YtdlkibeljkapeaaGreatDoor.Den
open Go Go.RowKit
theorem cre_k30:(bl fun ck=>(List.range 3).all fun l=>creK 3 0 ck l)=true:=by kernel_rfl
theorem cre_k31:(bl fun ck=>(List.range 3).all fun l=>creK 3 1 ck l)=true:=by kernel_rfl
theorem cre_k32:(bl fun ck=>(List.range 3).all fun l=>creK 3 2 ck l)=true:=by kernel_rfl
end Go.Proofs.YtdlkibeljkapeaaGreatDoor.Den
namespace Go.Proofs.YtdlkibeljkapeaaGreatDoor.Den
open Go Go.RowKit
theorem cre_k40:(bl fun ck=>(List.range 3).all fun l=>creK 4 0 ck l)=true:=by kernel_rfl
theorem cre_k41:(bl fun ck=>(List.range 3).all fun l=>creK 4 1 ck l)=true:=by kernel_rfl
theorem cre_k42:(bl fun ck=>(List.range 3).all fun l=>creK 4 2 ck l)=true:=by kernel_rfl
end Go.Proofs.YtdlkibeljkapeaaGreatDoor.Den
namespace Go.Proofs.YtdlkibeljkapeaaGreatDoor.Den
open Go Go.RowKit
def tyW:List String:=["bool", "int", "dec", "text", "bytes"]
def clmF (ty:String) (nn:Bool):List Fact:=match nn with
 | false=>[nextT (nmS 2 10) (kwS ty 12),nextT (kwS ty 12) (gS 80),isT (gS 80) "not" false]
 | true=>[nextT (nmS 2 10) (kwS ty 12),nextT (kwS ty 12) (kwS "not" 14),nextT (kwS "not" 14) (kwS "null" 16),nextT (kwS "null" 16) (gS 80)]
theorem clm_k:((List.range 5).all fun t=>bl fun nn=>okRS (.agg [.atom 2,nI (t+1:Nat), .bool nn]) (gS 80) (callF PG (fOrc noOwn (clmF (tyW.getD t "") nn)) 30 f_sql_parser_column [.box 0 0] (nmS 2 10)))=true:=by kernel_rfl
def nnP (nn:Bool):List Pc:=match nn with|true=>[(true, .w (kw "not")),(true, .w (kw "null"))]|false=>[]
def colPc (b:Bool) (nm:List UInt8) (t:Nat) (nn:Bool):List Pc:=[(b, .w nm),(true, .w (kw (tyW.getD t "")))]++nnP nn
theorem tyW_key:∀ t,t < 5→keysL.contains (kw (tyW.getD t ""))=true:=by decide +kernel
theorem col_at {s nm:List UInt8} {i j:Nat} {b:Bool} (hn:keysL.contains nm=false) {t:Nat} (ht:t < 5) {nn:Bool} (h:Chain s (colPc b nm t nn) i j) :
  ∃ a tu,Rd s i ⟨2,(a:Nat),nm,v0,0⟩ tu∧∀ z tz,Rd s j z tz→isM z (kw "not")=false→EvS PG f_sql_parser_column [.box 0 0] (okL s ⟨2,(a:Nat),nm,v0,0⟩ tu 0) (.agg [.str nm,nI (t+1:Nat), .bool nn]) (okL s z tz 0):=by
 obtain ⟨t1,⟨a1,r1⟩,t2,⟨a2,r2⟩,hc⟩:=h
 have r1:=nm_rd hn r1
 have r2:=kw_rd (tyW_key t ht) r2
 refine ⟨a1,t1,r1,fun z tz hz hnz=>?_⟩
 have hk:=okRS_eq (bl_all (List.all_eq_true.1 clm_k t (by rw [List.mem_range];exact ht)) nn)
 cases nn with
 | false =>
  obtain rfl:t2=j:=hc
  exact EvS.facts (nu:=nuL (stNu s nm [] [] (p30 [nI a1,nI t1,nI a2,nI t2]) z tz z tz E7.zero E7.zero z tz)) (args:=[.box 0 0]) (s:=nmS 2 10) (s':=gS 80) prog_ok (stNu_ok rfl rfl rfl) hk
   ⟨fst1 (next_ev ⟨2,a1,nm,v0,0⟩ 0 r2) rfl rfl rfl rfl rfl,fst1 (next_ev ⟨1,a2,kw (tyW.getD t ""),v0,0⟩ 0 hz) rfl rfl rfl rfl rfl,fIs rfl hnz rfl,trivial⟩ rfl rfl rfl
 | true =>
  obtain ⟨t3,⟨a3,r3⟩,t4,⟨a4,r4⟩,rfl⟩:=hc
  have r3:=kw_rd (by decide +kernel) r3
  have r4:=kw_rd (by decide +kernel) r4
  exact EvS.facts (nu:=nuL (stNu s nm [] [] (p30 [nI a1,nI t1,nI a2,nI t2,nI a3,nI t3,nI a4,nI t4]) z tz z tz E7.zero E7.zero z tz)) (args:=[.box 0 0]) (s:=nmS 2 10) (s':=gS 80) prog_ok (stNu_ok rfl rfl rfl) hk
   ⟨fst1 (next_ev ⟨2,a1,nm,v0,0⟩ 0 r2) rfl rfl rfl rfl rfl,fst1 (next_ev ⟨1,a2,kw (tyW.getD t ""),v0,0⟩ 0 r3) rfl rfl rfl rfl rfl,fst1 (next_ev ⟨1,a3,kw "not", v0,0⟩ 0 r4) rfl rfl rfl rfl rfl,fst1 (next_ev ⟨1,a4,kw "null", v0,0⟩ 0 hz) rfl rfl rfl rfl rfl,trivial⟩ rfl rfl rfl
def owT (k:Nat):PV:=.agg ([.atom 2, .slice 3 ((List.range k).map fun i=>.agg [.str (cnm i), .atom (40+i), .atom (44+i)]), .atom 50, .atom 51]++(eaL 60++[.atom 52]))
def ncN (w:List UInt8) (j:Nat):List Res:=okP (.atom 0) (nI 2) (.atom j) (.str w) (nI 0) (nI 0) (nI 0) (.str []) (.atom (j+1)) (nI 0)
theorem ow_k:((List.range 5).all fun k=>(List.range k).all fun t=>okRS (nI t) (gS 80) (callF PG (fOrc noOwn [nextT (mkS 2 10) (ncN (cnm t) 12),nextT (ncN (cnm t) 12) (mkS 3 14),nextT (mkS 3 14) (gS 80)]) 30 f_sql_parser_ownBracketed [.box 0 0,owT k] (mkS 2 10)))=true:=by kernel_rfl
def owNu (s nm:List UInt8) (P:List PV) (ty:Nat→Int) (nn:Nat→Bool) (key uq lk:PV) (e:E7) (z:Sg) (tz:Nat):List PV :=
 [.str s,nI 0, .str nm,nI 0,nI 0,nI 0,nI 0,nI 0,nI 0,nI 0]++(P++([nI (ty 0),nI (ty 1),nI (ty 2),nI (ty 3), .bool (nn 0), .bool (nn 1), .bool (nn 2), .bool (nn 3),nI 0,nI 0,key,uq,lk,nI 0,nI 0,nI 0,nI 0,nI 0,nI 0,nI 0]++(e.L++(List.replicate 13 (nI 0)++sv z tz))))
theorem owNu_ok {s nm:List UInt8} {P:List PV} {ty:Nat→Int} {nn:Nat→Bool} {key uq lk:PV} {e:E7} {z:Sg} {tz:Nat} (hP:(P.all fun p=>p.clean&&p.pure)=true) (h:([key,uq,lk].all fun p=>p.clean&&p.pure)=true) (he:e.ok=true):NuOk (nuL (owNu s nm P ty nn key uq lk e z tz)):=by
 refine nuL_okB ?_
 have h1:(e.L.all fun p=>p.clean&&p.pure)=true:=he
 simp only [List.all_cons,List.all_nil,Bool.and_true,Bool.and_eq_true] at h
 unfold owNu
 simp only [List.all_append,hP,h1,List.all_cons,h]
 rfl
def colV (ty:Nat→Int) (nn:Nat→Bool) (i:Nat):PV:=.agg [.str (cnm i),nI (ty i), .bool (nn i)]
def tabV (nm:List UInt8) (k:Nat) (ty:Nat→Int) (nn:Nat→Bool) (key uq:PV) (e:E7) (lk:PV):List PV:=[.str nm, .slice 3 ((List.range k).map (colV ty nn)),key,uq]++(e.L++[lk])
theorem cnm_key:∀ t,t < 6→keysL.contains (cnm t)=false:=by decide +kernel
theorem tabV_pure {nm:List UInt8} {k:Nat} {ty:Nat→Int} {nn:Nat→Bool} {key uq:PV} {e:E7} {lk:PV} (h:([key,uq,lk].all fun p=>p.clean&&p.pure)=true) (he:e.ok=true):PV.pureL (tabV nm k ty nn key uq e lk)=true:=by
 have e1:PV.pureL ((List.range k).map (colV ty nn))=true:=by
  generalize List.range k=l
  induction l with
  | nil=>rfl
  | cons a l ih=>simp only [List.map_cons,PV.pureL,ih];rfl
 simp only [List.all_cons,List.all_nil,Bool.and_true,Bool.and_eq_true] at h
 simp only [E7.ok,E7.L,List.all_cons,List.all_nil,Bool.and_eq_true,Bool.and_true] at he
 simp [tabV,E7.L,PV.pureL,PV.pure,e1,h,he]
theorem own_at {s nm:List UInt8} {i j:Nat} {b:Bool} {k t:Nat} (hk:k≤4) (ht:t < k) {ty:Nat→Int} {nn:Nat→Bool} {key uq lk:PV} {e:E7} (hg:([key,uq,lk].all fun p=>p.clean&&p.pure)=true) (he:e.ok=true) (h:Chain s [(b, .m 2),(false, .w (cnm t)),(false, .m 3)] i j) :
  ∃ a tu,Rd s i (markSg 2 a) tu∧∀ z tz,Rd s j z tz→EvS PG f_sql_parser_ownBracketed [.box 0 0, .agg (tabV nm k ty nn key uq e lk)] (okL s (markSg 2 a) tu 0) (nI t) (okL s z tz 0):=by
 obtain ⟨t1,⟨a1,r1⟩,t2,⟨a2,r2⟩,t3,⟨a3,r3⟩,rfl⟩:=h
 have r2:=nm_rd (cnm_key t (by omega)) r2
 refine ⟨a1,t1,r1,fun z tz hz=>?_⟩
 have hkk:=okRS_eq (List.all_eq_true.1 (List.all_eq_true.1 ow_k k (by rw [List.mem_range];omega)) t (by rw [List.mem_range];exact ht))
 have hp:=tabV_pure (nm:=nm) (k:=k) (ty:=ty) (nn:=nn) hg he
 have hT:subD (nuL (owNu s nm (p30 [nI a1,nI t1,nI a2,nI t2,nI a3,nI t3]) ty nn key uq lk e z tz)) (owT k) = .agg (tabV nm k ty nn key uq e lk):=by
  have hk4:k=0∨k=1∨k=2∨k=3∨k=4:=by omega
  rcases hk4 with rfl|rfl|rfl|rfl|rfl<;>rfl
 have:=EvS.facts (nu:=nuL (owNu s nm (p30 [nI a1,nI t1,nI a2,nI t2,nI a3,nI t3]) ty nn key uq lk e z tz)) (args:=[.box 0 0,owT k]) (s:=mkS 2 10) (s':=gS 80) prog_ok (owNu_ok rfl hg he) hkk
   ⟨fst1 (next_ev (markSg 2 a1) 0 r2) rfl rfl rfl rfl rfl,fst1 (next_ev ⟨2,a2,cnm t,v0,0⟩ 0 r3) rfl rfl rfl rfl rfl,fst1 (next_ev (markSg 3 a3) 0 hz) rfl rfl rfl rfl rfl,trivial⟩
   (by
    show (true&&(((subD _ (owT k)).pure&&_)&&true))=true
    rw [hT]
    show (true&&((PV.pureL (tabV nm k ty nn key uq e lk)&&true)&&true))=true
    rw [hp];rfl) rfl rfl
 simp only [List.map_cons,List.map_nil,hT] at this
 exact this
end Go.Proofs.YtdlkibeljkapeaaGreatDoor.Den
namespace Go.Proofs.YtdlkibeljkapeaaGreatDoor.Den
open Go Go.RowKit
def nuFn (L:List PV) (f:Nat→PV) (j:Nat):PV:=match Nat.ble 1000 j with
 | true=>f (j - 1000)
 | false=>L.getD j (.bool false)
theorem nuFn_ok {L:List PV} {f:Nat→PV} (h:(L.all fun p=>p.clean&&p.pure)=true) (hf:∀ j,(f j).flatA=true):NuOk (nuFn L f):=by
 have h1:∀ j,(L.getD j (.bool false)).clean=true∧(L.getD j (.bool false)).pure=true:=fun j=>by
  rw [List.getD_eq_getElem?_getD]
  cases hj:L[j]? with
  | none=>exact ⟨rfl,rfl⟩
  | some p=>simpa using List.all_eq_true.1 h p (List.mem_of_getElem? hj)
 have h3:∀ p:PV,p.flatA=true→p.clean=true∧p.pure=true:=fun p hp=>by cases p<;>first|exact ⟨rfl,rfl⟩|cases hp
 have h4:∀ j,(nuFn L f j).clean=true∧(nuFn L f j).pure=true:=fun j=>by
  unfold nuFn
  split
  ·exact h3 _ (hf _)
  ·exact h1 _
 refine ⟨fun j=>(h4 j).1,fun j=>(h4 j).2,fun j hj=>?_⟩
 unfold nuFn
 rw [hj]
 exact hf _
structure CEnv where
 s:List UInt8
 nm:List UInt8
 n5:List UInt8
 n6:List UInt8
 R:Nat→Nat
 ty:Nat→Int
 nn:Nat→Bool
 e:E7
variable (E:CEnv)
def CEnv.fix (z:Sg) (tz:Nat):List PV:=[.str E.s,nI 0, .str E.nm,nI (E.R 3),nI 0, .str E.n5, .str E.n6,nI 0,nI 0,nI 0,nI (E.R 10),nI (E.R 11),nI (E.R 12),nI (E.R 13),nI 0,nI 0,nI 0,nI 0,nI 0,nI 0,
 nI (E.ty 0),nI (E.ty 1),nI (E.ty 2),nI (E.ty 3), .bool (E.nn 0), .bool (E.nn 1), .bool (E.nn 2), .bool (E.nn 3)]++(List.replicate 52 (nI 0)++sv z tz)
def CEnv.fl (z:Sg) (tz:Nat) (Y:Nat→Sg) (T:Nat→Nat) (j:Nat):PV:=match Nat.ble 100 j with
 | true=>(sv (Y ((j - 100) / 8)) (T ((j - 100) / 8))).getD ((j - 100) % 8) (nI 0)
 | false=>(E.fix z tz).getD j (nI 0)
def CEnv.nu (z:Sg) (tz:Nat) (Y:Nat→Sg) (T:Nat→Nat):Nat→PV:=nuFn (List.replicate 60 (nI 0)++E.e.L) (E.fl z tz Y T)
theorem sv_flat (y:Sg) (t j:Nat):((sv y t).getD j (nI 0)).flatA=true:=by
 rw [List.getD_eq_getElem?_getD]
 cases hj:(sv y t)[j]? with
 | none=>rfl
 | some p =>
  have:=List.mem_of_getElem? hj
  simp only [sv,List.mem_cons,List.not_mem_nil,or_false] at this
  rcases this with rfl|rfl|rfl|rfl|rfl|rfl|rfl|rfl<;>rfl
theorem CEnv.nu_ok {z:Sg} {tz:Nat} {Y:Nat→Sg} {T:Nat→Nat} (he:E.e.ok=true):NuOk (E.nu z tz Y T):=by
 refine nuFn_ok ?_ fun j=>?_
 ·rw [List.all_append,show (E.e.L.all fun p=>p.clean&&p.pure)=true from he]
  rfl
 ·unfold CEnv.fl
  split
  ·exact sv_flat _ _ _
  ·have h:(E.fix z tz).all PV.flatA=true:=rfl
   rw [List.getD_eq_getElem?_getD]
   cases hj:(E.fix z tz)[j]? with
   | none=>rfl
   | some p=>exact List.all_eq_true.1 h p (List.mem_of_getElem? hj)
theorem CEnv.nu_at (z:Sg) (tz:Nat) (Y:Nat→Sg) (T:Nat→Nat) (j m:Nat) (hm:m < 8):E.nu z tz Y T (1100+8*j+m)=(sv (Y j) (T j)).getD m (nI 0):=by
 unfold CEnv.nu nuFn
 rw [show Nat.ble 1000 (1100+8*j+m)=true by rw [Nat.ble_eq];omega]
 show E.fl z tz Y T (1100+8*j+m - 1000)=_
 unfold CEnv.fl
 rw [show Nat.ble 100 (1100+8*j+m - 1000)=true by rw [Nat.ble_eq];omega]
 show (sv (Y ((1100+8*j+m - 1000 - 100) / 8)) (T ((1100+8*j+m - 1000 - 100) / 8))).getD ((1100+8*j+m - 1000 - 100) % 8) (nI 0)=_
 rw [show (1100+8*j+m - 1000 - 100) / 8=j by omega,show (1100+8*j+m - 1000 - 100) % 8=m by omega]
theorem CEnv.tk_res (z:Sg) (tz:Nat) (Y:Nat→Sg) (T:Nat→Nat) {k:Int} {p:PV} {w:List UInt8} {j:Nat} {a:Int} (hw:subD (E.nu z tz Y T) p = .str w) (hY:Y j=⟨k,a,w,v0,0⟩):(tkS k p j).map (subRes (E.nu z tz Y T))=okL E.s (Y j) (T j) 0:=by
 have h1:E.nu z tz Y T (1101+8*j)=nI (Y j).a:=by
  have:=E.nu_at z tz Y T j 1 (by decide)
  rw [show 1100+8*j+1=1101+8*j by omega] at this
  exact this
 have h7:E.nu z tz Y T (1107+8*j)=nI (T j):=by
  have:=E.nu_at z tz Y T j 7 (by decide)
  rw [show 1100+8*j+7=1107+8*j by omega] at this
  exact this
 show [Res.box [PV.str E.s,nI k,E.nu z tz Y T (1101+8*j),subD (E.nu z tz Y T) p,nI 0,nI 0,nI 0, .str [],nI 0,E.nu z tz Y T (1107+8*j),nI 0,nI 0,nI 0]]=_
 rw [h1,h7,hw,hY]
 rfl
theorem CEnv.g_res (z:Sg) (tz:Nat) (Y:Nat→Sg) (T:Nat→Nat) (j:Nat):(gF (100+8*j)).map (subRes (E.nu z tz Y T))=okL E.s (Y j) (T j) 0:=by
 have h:∀ m,m < 8→E.nu z tz Y T (1000+(100+8*j)+m)=(sv (Y j) (T j)).getD m (nI 0):=fun m hm=>by
  have:=E.nu_at z tz Y T j m hm
  rw [show 1000+(100+8*j)+m=1100+8*j+m by omega]
  exact this
 have hh:∀ m,1000+m+(100+8*j)=1000+(100+8*j)+m:=fun m=>by omega
 show [Res.box [PV.str E.s,E.nu z tz Y T (1000+(100+8*j)),E.nu z tz Y T (1001+(100+8*j)),E.nu z tz Y T (1002+(100+8*j)),E.nu z tz Y T (1003+(100+8*j)),E.nu z tz Y T (1004+(100+8*j)),E.nu z tz Y T (1005+(100+8*j)),E.nu z tz Y T (1006+(100+8*j)),nI 0,E.nu z tz Y T (1007+(100+8*j)),nI 0,nI 0,nI 0]]=_
 have h0:=h 0 (by decide)
 rw [Nat.add_zero] at h0
 rw [h0,show 1001+(100+8*j)=1000+(100+8*j)+1 by omega,h 1 (by decide),show 1002+(100+8*j)=1000+(100+8*j)+2 by omega,h 2 (by decide),show 1003+(100+8*j)=1000+(100+8*j)+3 by omega,h 3 (by decide),
  show 1004+(100+8*j)=1000+(100+8*j)+4 by omega,h 4 (by decide),show 1005+(100+8*j)=1000+(100+8*j)+5 by omega,h 5 (by decide),show 1006+(100+8*j)=1000+(100+8*j)+6 by omega,h 6 (by decide),show 1007+(100+8*j)=1000+(100+8*j)+7 by omega,h 7 (by decide)]
 rfl
def CEnv.N (n:Nat):List UInt8:=match n with|2=>E.nm|5=>E.n5|6=>E.n6|_=>[]
def CEnv.sign:CI→Sg→Prop
 | .tk (.kw a),y=>∃ p:Nat,y=⟨1,p,kw a,v0,0⟩
 | .tk (.nm n),y=>(n=2∨n=5∨n=6)∧∃ p:Nat,y=⟨2,p,E.N n,v0,0⟩
 | .tk (.nc w),y=>∃ p:Nat,y=⟨2,p,w,v0,0⟩
 | .tk (.mk m),y=>∃ p:Nat,y=markSg m p
 | .col i,y=>i < 4∧∃ p:Nat,y=⟨2,p,cnm i,v0,0⟩
 | .ex,_=>True
 | .ow _ r,y=>(r=3∨r=10∨r=11∨r=12∨r=13)∧∃ p:Nat,y=markSg 2 p
def CEnv.ev:CI→List Res→List Res→Prop
 | .tk _,a,b=>EvS PG f_sql_parser_next [.box 0 0] a (.tup []) b
 | .col i,a,b=>EvS PG f_sql_parser_column [.box 0 0] a (colV E.ty E.nn i) b
 | .ex,a,b=>EvS PG f_sql_parser_any [.box 0 0] a E.e.pv b
 | .ow T r,a,b=>∃ V,(∀ z tz Y Tt,subD (E.nu z tz Y Tt) (.agg T) = .agg V)∧EvS PG f_sql_parser_ownBracketed [.box 0 0, .agg V] a (nI (E.R r)) b
def CI.zc:CI→Sg→Prop
 | .col _,z=>isM z (kw "not")=false
 | .ex,z=>∀ w∈stops,isM z (kw w)=false
 | _,_=>True
def CEnv.At (i j:Nat) (c:CI):Prop:=∃ y tu,Rd E.s i y tu∧E.sign c y∧∀ z tz,Rd E.s j z tz→c.zc z→E.ev c (okL E.s y tu 0) (okL E.s z tz 0)
def CEnv.Chn:List CI→Nat→Nat→Prop
 | [],i,j=>i=j
 | c::cs,i,j=>∃ k,E.At i k c∧CEnv.Chn cs k j
def nx:List CI→Bool
 | .col _::.tk (.mk m)::r=>(Nat.beq m 3||Nat.beq m 4)&&nx (.tk (.mk m)::r)
 | .col _::_=>false
 | .ex::.tk (.mk m)::r=>(Nat.beq m 3||Nat.beq m 4)&&nx (.tk (.mk m)::r)
 | .ex::_=>false
 | _::r=>nx r
 | []=>true
theorem mk34 {m p:Nat} (h:(Nat.beq m 3||Nat.beq m 4)=true):isM (markSg m p) (kw "not")=false∧∀ w∈stops,isM (markSg m p) (kw w)=false:=by
 simp only [Bool.or_eq_true,Nat.beq_eq] at h
 rcases h with rfl|rfl
 ·refine ⟨rfl,fun w hw=>?_⟩
  simp only [stops,List.mem_cons,List.not_mem_nil,or_false] at hw
  rcases hw with rfl|rfl|rfl|rfl|rfl|rfl|rfl|rfl|rfl|rfl<;>rfl
 ·refine ⟨rfl,fun w hw=>?_⟩
  simp only [stops,List.mem_cons,List.not_mem_nil,or_false] at hw
  rcases hw with rfl|rfl|rfl|rfl|rfl|rfl|rfl|rfl|rfl|rfl<;>rfl
theorem nx_zc {c d:CI} {r:List CI} (h:nx (c::d::r)=true) {y:Sg} (hy:E.sign d y):c.zc y∧nx (d::r)=true:=by
 cases c with
 | tk t=>exact ⟨trivial,by cases t<;>exact h⟩
 | ow T r=>exact ⟨trivial,h⟩
 | col i =>
  match d,h,hy with
  | .tk (.mk m),h,⟨p,hp⟩ =>
   simp only [nx,Bool.and_eq_true] at h
   subst hp
   exact ⟨(mk34 h.1).1,h.2⟩
  | .tk (.kw _),h,_=>cases h
  | .tk (.nm _),h,_=>cases h
  | .tk (.nc _),h,_=>cases h
  | .col _,h,_=>cases h
  | .ex,h,_=>cases h
  | .ow _ _,h,_=>cases h
 | ex =>
  match d,h,hy with
  | .tk (.mk m),h,⟨p,hp⟩ =>
   simp only [nx,Bool.and_eq_true] at h
   subst hp
   exact ⟨(mk34 h.1).2,h.2⟩
  | .tk (.kw _),h,_=>cases h
  | .tk (.nm _),h,_=>cases h
  | .tk (.nc _),h,_=>cases h
  | .col _,h,_=>cases h
  | .ex,h,_=>cases h
  | .ow _ _,h,_=>cases h
structure CEnv.Run (cs:List CI) (i:Nat) (z:Sg) (tz:Nat) (Y:Nat→Sg) (T:Nat→Nat):Prop where
 rd:Rd E.s i (Y 0) (T 0)
 y:Y cs.length=z
 t:T cs.length=tz
 ev:∀ m c,cs[m]? = some c→E.sign c (Y m)∧E.ev c (okL E.s (Y m) (T m) 0) (okL E.s (Y (m+1)) (T (m+1)) 0)
theorem CEnv.run_of:∀ (cs:List CI) (c0:CI),nx (c0::cs)=true→∀ {i j:Nat},E.Chn (c0::cs) i j→∃ y0 t0,Rd E.s i y0 t0∧E.sign c0 y0∧∀ {z:Sg} {tz:Nat},Rd E.s j z tz→(∀ c,(c0::cs).getLast? = some c→c.zc z)→∃ Y T,Y 0=y0∧T 0=t0∧E.Run (c0::cs) i z tz Y T
 | [],c,_,i,j,⟨k,⟨y,tu,h1,h2,h3⟩,e⟩=>by
  obtain rfl:k=j:=e
  refine ⟨y,tu,h1,h2,fun {z tz} hz hl=>⟨fun m=>match m with|0=>y|_+1=>z,fun m=>match m with|0=>tu|_+1=>tz,rfl,rfl,h1,rfl,rfl,fun m d hd=>?_⟩⟩
  cases m with
  | zero =>
   simp at hd
   subst hd
   exact ⟨h2,h3 z tz hz (hl c rfl)⟩
  | succ m=>simp at hd
 | d::cs,c,hn,i,j,⟨k,⟨y,tu,h1,h2,h3⟩,hc⟩=>by
  have hn2:nx (d::cs)=true:=by
   obtain ⟨_,⟨y',_,_,hy',_⟩,_⟩:=hc
   exact (nx_zc E hn hy').2
  obtain ⟨y1,t1,_,_,ih⟩:=CEnv.run_of cs d hn2 hc
  refine ⟨y,tu,h1,h2,fun {z tz} hz hl=>?_⟩
  obtain ⟨Y,T,_,_,q⟩:=ih hz (fun x hx=>hl x (by rw [List.getLast?_cons_cons];exact hx))
  have hz0:=(nx_zc E hn (q.ev 0 d rfl).1).1
  refine ⟨fun m=>match m with|0=>y|m+1=>Y m,fun m=>match m with|0=>tu|m+1=>T m,rfl,rfl,h1,q.y,q.t,fun m x hx=>?_⟩
  cases m with
  | zero =>
   simp at hx
   subst hx
   exact ⟨h2,h3 _ _ q.rd hz0⟩
  | succ m=>exact q.ev m x (by simpa using hx)
theorem CEnv.ci_res {z:Sg} {tz:Nat} {Y:Nat→Sg} {T:Nat→Nat} {c:CI} {j:Nat} (h:E.sign c (Y j)):(c.res j).map (subRes (E.nu z tz Y T))=okL E.s (Y j) (T j) 0:=by
 match c,h with
 | .tk (.kw a),⟨p,hp⟩=>exact E.tk_res z tz Y T rfl hp
 | .tk (.nm n),⟨hn,p,hp⟩ =>
  refine E.tk_res z tz Y T ?_ hp
  rcases hn with rfl|rfl|rfl<;>rfl
 | .tk (.nc w),⟨p,hp⟩=>exact E.tk_res z tz Y T rfl hp
 | .tk (.mk m),⟨p,hp⟩=>exact E.tk_res z tz Y T rfl hp
 | .col i,⟨_,p,hp⟩=>exact E.tk_res z tz Y T rfl hp
 | .ex,_=>exact E.g_res z tz Y T j
 | .ow _ _,⟨_,p,hp⟩=>exact E.tk_res z tz Y T rfl hp
theorem ci_fn (c:CI) (j:Nat) (nu:Nat→PV):(c.res j).all (fnRes nu)=true:=by
 cases c with
 | tk t=>cases t<;>rfl
 | _=>rfl
theorem CEnv.fact_ok {z:Sg} {tz:Nat} {Y:Nat→Sg} {T:Nat→Nat} {c:CI} {j:Nat} {st:List Res} {y':Sg} {t':Nat} (h:E.sign c (Y j)) (hev:E.ev c (okL E.s (Y j) (T j) 0) (okL E.s y' t' 0)) (hst:st.map (subRes (E.nu z tz Y T))=okL E.s y' t' 0) (hfn:st.all (fnRes (E.nu z tz Y T))=true):FactOk PG (E.nu z tz Y T) (c.fact j st):=by
 have hr:=E.ci_res (z:=z) (tz:=tz) (T:=T) h
 match c,h,hev,hr with
 | .tk t,_,hev,hr=>exact fst1 hev rfl hr rfl hst (by rw [hfn];rfl)
 | .col i,⟨hi,_⟩,hev,hr =>
  refine fst1 hev rfl hr ?_ hst (by rw [hfn];rfl)
  have:i=0∨i=1∨i=2∨i=3:=by omega
  rcases this with rfl|rfl|rfl|rfl<;>rfl
 | .ex,_,hev,hr=>exact fst1 hev rfl hr rfl hst (by rw [hfn];rfl)
 | .ow X r,⟨hx,_⟩,⟨V,hV,hev⟩,hr =>
  refine fst1 hev (by show [PV.box 0 0,subD _ (.agg X)]=_;rw [hV]) hr ?_ hst ?_
  ·rcases hx with rfl|rfl|rfl|rfl|rfl<;>rfl
  ·rw [hfn]
   rcases hx with rfl|rfl|rfl|rfl|rfl<;>rfl
theorem CEnv.z_res (z:Sg) (tz:Nat) (Y:Nat→Sg) (T:Nat→Nat):(gF 80).map (subRes (E.nu z tz Y T))=okL E.s z tz 0:=rfl
theorem CEnv.facts_ok {z:Sg} {tz:Nat} {Y:Nat→Sg} {T:Nat→Nat}:∀ (cs:List CI) (j0:Nat),(∀ m c,cs[m]? = some c→E.sign c (Y (j0+m))∧E.ev c (okL E.s (Y (j0+m)) (T (j0+m)) 0) (okL E.s (Y (j0+m+1)) (T (j0+m+1)) 0))→Y (j0+cs.length)=z→T (j0+cs.length)=tz→FactsOk PG (E.nu z tz Y T) (ciF cs j0)
 | [],_,_,_,_=>trivial
 | [c],j0,h,hy,ht=>by
  obtain ⟨h1,h2⟩:=h 0 c rfl
  have hy':Y (j0+0+1)=z:=hy
  have ht':T (j0+0+1)=tz:=ht
  rw [hy',ht'] at h2
  exact ⟨E.fact_ok h1 h2 (E.z_res z tz Y T) rfl,trivial⟩
 | c::d::cs,j0,h,hy,ht=>by
  obtain ⟨h1,h2⟩:=h 0 c rfl
  obtain ⟨h3,_⟩:=h 1 d rfl
  refine ⟨E.fact_ok h1 h2 (E.ci_res h3) (ci_fn _ _ _),CEnv.facts_ok (d::cs) (j0+1) (fun m x hx=>?_) ?_ ?_⟩
  ·have:=h (m+1) x (by simpa using hx)
   rw [show j0+1+m=j0+(m+1) by omega]
   exact this
  ·rw [← hy];congr 1;simp;omega
  ·rw [← ht];congr 1;simp;omega
end Go.Proofs.YtdlkibeljkapeaaGreatDoor.Den
namespace Go.Proofs.YtdlkibeljkapeaaGreatDoor.Den
open Go Go.RowKit
theorem cre_k {k u l:Nat} (hk:1≤k∧k≤4) (hu:u < 3) (ck:Bool) (hl:l < 3):creK k u ck l=true:=by
 have a:∀ {f:Nat→Bool},(List.range 3).all f=true→∀ {m},m < 3→f m=true:=fun h m hm=>List.all_eq_true.1 h m (by rw [List.mem_range];exact hm)
 have h4:k=1∨k=2∨k=3∨k=4:=by omega
 have h3:u=0∨u=1∨u=2:=by omega
 rcases h4 with rfl|rfl|rfl|rfl
 ·exact a (bl_all (a cre_k1 hu) ck) hl
 ·rcases h3 with rfl|rfl|rfl
  ·exact a (bl_all cre_k20 ck) hl
  ·exact a (bl_all cre_k21 ck) hl
  ·exact a (bl_all cre_k22 ck) hl
 ·rcases h3 with rfl|rfl|rfl
  ·exact a (bl_all cre_k30 ck) hl
  ·exact a (bl_all cre_k31 ck) hl
  ·exact a (bl_all cre_k32 ck) hl
 ·rcases h3 with rfl|rfl|rfl
  ·exact a (bl_all cre_k40 ck) hl
  ·exact a (bl_all cre_k41 ck) hl
  ·exact a (bl_all cre_k42 ck) hl
def CI.fl:CI→Bool
 | .tk (.kw a)=>a != "create"
 | .tk (.mk m)=>Nat.beq m 2
 | .tk _=>true
 | .col i=>!Nat.beq i 0
 | .ex=>false
 | .ow _ _=>true
def CI.mark1:CI→Bool
 | .tk (.mk _)=>true
 | .ow _ _=>true
 | _=>false
def jnC:CI→CI→Bool
 | .tk (.mk _),_=>true
 | .ow _ _,_=>true
 | .ex, .tk (.mk m)=>Nat.beq m 3||(Nat.beq m 4||Nat.beq m 5)
 | .ex,_=>false
 | _,d=>d.fl||d.mark1
def adjC:List CI→Bool
 | c::d::r=>jnC c d&&adjC (d::r)
 | _=>true
variable (E:CEnv) (t:Nat→Nat) (e:Xp)
def CEnv.pcs (c:CI):List Pc:=match c with
 | .tk (.kw a)=>[(c.fl, .w (kw a))]
 | .tk (.nm n)=>[(c.fl, .w (E.N n))]
 | .tk (.nc w)=>[(c.fl, .w w)]
 | .tk (.mk m)=>[(c.fl, .m m)]
 | .col i=>colPc c.fl (cnm i) (t i) (E.nn i)
 | .ex=>[(c.fl, .x e)]
 | .ow _ r=>[(c.fl, .m 2),(false, .w (cnm (E.R r))),(false, .m 3)]
theorem adj_app:∀ (ps:List Pc) (q:Pc) (qs:List Pc),adj ps=true→adj (q::qs)=true→(∀ p,ps.getLast? = some p→jn p.2 q=true)→adj (ps++q::qs)=true
 | [],_,_,_,h,_=>h
 | [p],q,qs,_,h,hj=>by
  show (jn p.2 q&&adj (q::qs))=true
  rw [hj p rfl,h];rfl
 | p::p2::ps,q,qs,ha,h,hj=>by
  simp only [adj,Bool.and_eq_true] at ha
  show (jn p.2 p2&&adj (p2::ps++q::qs))=true
  rw [ha.1,adj_app (p2::ps) q qs ha.2 h (fun x hx=>hj x (by rw [List.getLast?_cons_cons];exact hx))];rfl
theorem CEnv.pcs_head (c:CI):∃ it r,E.pcs t e c=(c.fl,it)::r∧(c.mark1=true→∃ m,it = .m m)∧(∀ m,c = .tk (.mk m)→it = .m m):=by
 match c with
 | .tk (.kw _)=>exact ⟨_,_,rfl,fun h=>(by cases h),fun _ h=>(by cases h)⟩
 | .tk (.nm _)=>exact ⟨_,_,rfl,fun h=>(by cases h),fun _ h=>(by cases h)⟩
 | .tk (.nc _)=>exact ⟨_,_,rfl,fun h=>(by cases h),fun _ h=>(by cases h)⟩
 | .tk (.mk m)=>exact ⟨_,_,rfl,fun _=>⟨m,rfl⟩,fun _ h=>(by cases h;rfl)⟩
 | .col _=>exact ⟨_,_,rfl,fun h=>(by cases h),fun _ h=>(by cases h)⟩
 | .ex=>exact ⟨_,_,rfl,fun h=>(by cases h),fun _ h=>(by cases h)⟩
 | .ow _ _=>exact ⟨_,_,rfl,fun _=>⟨2,rfl⟩,fun _ h=>(by cases h)⟩
theorem CEnv.pcs_adj (c:CI):adj (E.pcs t e c)=true:=by
 match c with
 | .tk (.kw _)=>rfl
 | .tk (.nm _)=>rfl
 | .tk (.nc _)=>rfl
 | .tk (.mk m)=>rfl
 | .col i=>show adj (colPc _ _ _ (E.nn i))=true;cases E.nn i<;>rfl
 | .ex=>rfl
 | .ow _ _=>rfl
theorem jn_of {c d : CI} (h : jnC c d = true) {p q : Pc} (hp : (E.pcs t e c).getLast? = some p) (hq : (E.pcs t e d).head? = some q) : jn p.2 q = true := by
  obtain ⟨it, r, hd, h1, h2⟩ := E.pcs_head t e d
  rw [hd] at hq
  obtain rfl : (d.fl, it) = q := by simpa using hq
  have hw : ∀ a : List UInt8, (d.fl || d.mark1) = true → jn (.w a) (d.fl, it) = true := fun a hh => by
    rw [Bool.or_eq_true] at hh
    rcases hh with hh | hh
    · rw [hh]; cases it <;> rfl
    · obtain ⟨m, rfl⟩ := h1 hh; rfl
  match c, h, hp with
  | .tk (.kw a), h, hp => obtain rfl : (_, It.w (kw a)) = p := by simpa [CEnv.pcs] using hp
                          exact hw _ h
  | .tk (.nm n), h, hp => obtain rfl : (_, It.w (E.N n)) = p := by simpa [CEnv.pcs] using hp
                          exact hw _ h
  | .tk (.nc w), h, hp => obtain rfl : (_, It.w w) = p := by simpa [CEnv.pcs] using hp
                          exact hw _ h
  | .tk (.mk m), _, hp => obtain rfl : (_, It.m m) = p := by simpa [CEnv.pcs] using hp
                          rfl
  | .col i, h, hp =>
    have hp' : (colPc (CI.fl (.col i)) (cnm i) (t i) (E.nn i)).getLast? = some p := hp
    unfold colPc nnP at hp'
    cases hn : E.nn i with
    | true =>
      rw [hn] at hp'
      obtain rfl : (true, It.w (kw "null")) = p := by simpa using hp'
      exact hw _ h
    | false =>
      rw [hn] at hp'
      obtain rfl : (true, It.w (kw (tyW.getD (t i) ""))) = p := by simpa using hp'
      exact hw _ h
  | .ex, h, hp =>
    obtain rfl : (_, It.x e) = p := by simpa [CEnv.pcs] using hp
    match d, h, h2 with
    | .tk (.mk m), h, h2 =>
      rw [h2 m rfl]
      show (_ || (Nat.beq m 3 || (Nat.beq m 4 || Nat.beq m 5))) = true
      have h' : (Nat.beq m 3 || (Nat.beq m 4 || Nat.beq m 5)) = true := h
      rw [h', Bool.or_true]
    | .tk (.kw _), h, _ => cases h
    | .tk (.nm _), h, _ => cases h
    | .tk (.nc _), h, _ => cases h
    | .col _, h, _ => cases h
    | .ex, h, _ => cases h
    | .ow _ _, h, _ => cases h
  | .ow _ r, _, hp => obtain rfl : (_, It.m 3) = p := by simpa [CEnv.pcs] using hp
                      rfl
theorem CEnv.adj_of:∀ (cs:List CI),adjC cs=true→adj (cs.flatMap (E.pcs t e))=true
 | [],_=>rfl
 | [c],_=>by simpa using E.pcs_adj t e c
 | c::d::cs,h=>by
  simp only [adjC,Bool.and_eq_true] at h
  have ih:=CEnv.adj_of (d::cs) h.2
  obtain ⟨it,r,hd,_⟩:=E.pcs_head t e d
  rw [List.flatMap_cons]
  have hq:(d::cs).flatMap (E.pcs t e)=(d.fl,it)::(r++cs.flatMap (E.pcs t e)):=by rw [List.flatMap_cons,hd];rfl
  rw [hq] at ih ⊢
  exact adj_app _ _ _ (E.pcs_adj t e c) ih (fun p hp=>jn_of E t e h.1 hp (by rw [hd];rfl))
def CEnv.okC:CI→Prop
 | .tk (.kw a)=>keysL.contains (kw a)=true∧wdB (kw a)=true
 | .tk (.nm n)=>(n=2∨n=5∨n=6)∧keysL.contains (E.N n)=false∧wdB (E.N n)=true
 | .tk (.nc _)=>False
 | .tk (.mk m)=>m < 11∧m≠7
 | .col i=>i < 4∧t i < 5∧E.ty i=(t i+1:Nat)
 | .ex=>E.e=e.e7∧e.wf∧e.dpt≤12
 | .ow T r=>(r=3∨r=10∨r=11∨r=12∨r=13)∧∃ k key uq g lk,k≤4∧E.R r < k∧([key,uq,lk].all fun p=>p.clean&&p.pure)=true∧g.ok=true∧∀ z tz Y Tt,subD (E.nu z tz Y Tt) (.agg T) = .agg (tabV E.nm k E.ty E.nn key uq g lk)
theorem CEnv.at_of {i j:Nat} {c:CI} (h:E.okC t e c) (hc:Chain E.s (E.pcs t e c) i j):E.At i j c:=by
 match c,h,hc with
 | .tk (.kw a),h,⟨_,⟨p,r⟩,e⟩ =>
  obtain rfl:=e
  have r:=kw_rd h.1 r
  exact ⟨_,_,r,⟨p,rfl⟩,fun z tz hz _=>next_ev _ 0 hz⟩
 | .tk (.nm n),h,⟨_,⟨p,r⟩,e⟩ =>
  obtain rfl:=e
  have r:=nm_rd h.2.1 r
  exact ⟨_,_,r,⟨h.1,p,rfl⟩,fun z tz hz _=>next_ev _ 0 hz⟩
 | .tk (.mk m),h,⟨_,⟨p,r⟩,e⟩ =>
  obtain rfl:=e
  exact ⟨_,_,r,⟨p,rfl⟩,fun z tz hz _=>next_ev _ 0 hz⟩
 | .col i,h,hc =>
  obtain ⟨a,tu,r,h2⟩:=col_at (cnm_key i (by have:=h.1;omega)) h.2.1 hc
  refine ⟨_,_,r,⟨h.1,a,rfl⟩,fun z tz hz hnz=>?_⟩
  have:=h2 z tz hz hnz
  rw [← h.2.2] at this
  exact this
 | .ex,h,⟨_,⟨y,tu,hy,ha⟩,e⟩ =>
  obtain rfl:=e
  refine ⟨y,tu,hy,trivial,fun z tz hz hst=>?_⟩
  have:=(ha z tz hz hst).1
  rw [← h.1] at this
  exact this
 | .ow T r,⟨hr,k,key,uq,g,lk,hk,ht,hg,hgo,hV⟩,hc =>
  obtain ⟨a,tu,r1,h2⟩:=own_at (nm:=E.nm) (ty:=E.ty) (nn:=E.nn) hk ht hg hgo hc
  exact ⟨_,_,r1,⟨hr,a,rfl⟩,fun z tz hz _=>⟨_,hV,h2 z tz hz⟩⟩
theorem CEnv.chn_of:∀ (cs:List CI),(∀ c∈cs,E.okC t e c)→∀ {i j:Nat},Chain E.s (cs.flatMap (E.pcs t e)) i j→E.Chn cs i j
 | [],_,_,_,h=>h
 | c::cs,hc,i,j,h=>by
  rw [List.flatMap_cons] at h
  obtain ⟨k,h1,h2⟩:=Chain.append h
  exact ⟨k,E.at_of t e (hc c (by simp)) h1,CEnv.chn_of cs (fun d hd=>hc d (by simp [hd])) h2⟩
theorem tyW_wd:∀ m,m < 5→wdB (kw (tyW.getD m ""))=true:=by decide +kernel
theorem cnm_wd:∀ m,m < 6→wdB (cnm m)=true:=by decide +kernel
theorem CEnv.wf_of {c:CI} (h:E.okC t e c):∀ p∈E.pcs t e c,p.2.wf:=by
 intro p hp
 match c,h,hp with
 | .tk (.kw a),h,hp =>
  obtain rfl:p=(_,It.w (kw a)):=by simpa [CEnv.pcs] using hp
  exact h.2
 | .tk (.nm n),h,hp =>
  obtain rfl:p=(_,It.w (E.N n)):=by simpa [CEnv.pcs] using hp
  exact h.2.2
 | .tk (.mk m),h,hp =>
  obtain rfl:p=(_,It.m m):=by simpa [CEnv.pcs] using hp
  exact h
 | .col i,h,hp =>
  have hp':p∈colPc (CI.fl (.col i)) (cnm i) (t i) (E.nn i):=hp
  unfold colPc nnP at hp'
  have hb:wdB (kw "not")=true∧wdB (kw "null")=true:=by decide +kernel
  cases hn:E.nn i with
  | true =>
   rw [hn] at hp'
   simp at hp'
   rcases hp' with rfl|rfl|rfl|rfl
   ·exact cnm_wd i (by have:=h.1;omega)
   ·exact tyW_wd _ h.2.1
   ·exact hb.1
   ·exact hb.2
  | false =>
   rw [hn] at hp'
   simp at hp'
   rcases hp' with rfl|rfl
   ·exact cnm_wd i (by have:=h.1;omega)
   ·exact tyW_wd _ h.2.1
 | .ex,h,hp =>
  obtain rfl:p=(_,It.x e):=by simpa [CEnv.pcs] using hp
  exact h.2
 | .ow T r,⟨_,k,_,_,_,_,hk,ht,_⟩,hp =>
  have hp':p∈[(CI.fl (.ow T r),It.m 2),(false,It.w (cnm (E.R r))),(false,It.m 3)]:=hp
  simp at hp'
  rcases hp' with rfl|rfl|rfl
  ·exact ⟨by decide,by decide⟩
  ·exact cnm_wd _ (by omega)
  ·exact ⟨by decide,by decide⟩
end Go.Proofs.YtdlkibeljkapeaaGreatDoor.Den
namespace Go.Proofs.YtdlkibeljkapeaaGreatDoor.Den
open Go Go.RowKit
structure NmOk (w:List UInt8):Prop where
 wd:wdB w=true
 key:keysL.contains w=false
structure Tb where
 nm:List UInt8
 k:Nat
 t:Nat→Nat
 nn:Nat→Bool
 key:Nat
 u:Nat
 uq:Nat→Nat
 ck:Option Xp
 l:Nat
 lc:Nat→Nat
 ln:Nat→List UInt8
structure Tb.Wf (b:Tb):Prop where
 nm:NmOk b.nm
 k:1≤b.k∧b.k≤4
 t:∀ i,b.t i < 5
 key:b.key < b.k
 u:b.u < 3
 uq:∀ i,b.uq i < b.k
 ck:∀ e,b.ck=some e→XpOk e
 l:b.l < 3
 lc:∀ i,b.lc i < b.k
 ln:∀ i,NmOk (b.ln i)
def Tb.R (b:Tb):Nat→Nat
 | 3=>b.key
 | 10=>b.uq 0
 | 11=>b.uq 1
 | 12=>b.lc 0
 | 13=>b.lc 1
 | _=>0
def Tb.ty (b:Tb) (i:Nat):Int:=(b.t i+1:Nat)
def Tb.env (b:Tb) (s:List UInt8):CEnv:=⟨s,b.nm,b.ln 0,b.ln 1,b.R,b.ty,b.nn,wX b.ck⟩
def Tb.uqV (b:Tb) (m:Nat):PV:=match m with|0=>.nilslice|_=>.slice 1 ((List.range m).map fun i=>nI (b.uq i))
def Tb.lkV (b:Tb) (m:Nat):PV:=match m with|0=>.nilslice|_=>.slice 2 ((List.range m).map fun i=>.agg [nI (b.lc i), .str (b.ln i)])
def Tb.val (b:Tb):List PV:=tabV b.nm b.k b.ty b.nn (nI b.key) (b.uqV b.u) (wX b.ck) (b.lkV b.l)
def Tb.e (b:Tb):Xp:=b.ck.getD (.col [])
def Tb.items (b:Tb):List CI:=creI b.k b.u b.ck.isSome b.l
def Tb.pcs (b:Tb):List Pc:=b.items.flatMap ((b.env []).pcs b.t b.e)
theorem Tb.pcs_s (b:Tb) (s:List UInt8):b.items.flatMap ((b.env s).pcs b.t b.e)=b.pcs:=rfl
section
variable (b:Tb) (s:List UInt8) (z:Sg) (tz:Nat) (Y:Nat→Sg) (T:Nat→Nat)
theorem sub_cols {k:Nat} (hk:k≤4):subD ((b.env s).nu z tz Y T) (colsX k) = .slice 3 ((List.range k).map (colV b.ty b.nn)):=by
 have:k=0∨k=1∨k=2∨k=3∨k=4:=by omega
 rcases this with rfl|rfl|rfl|rfl|rfl<;>rfl
theorem sub_uq {m:Nat} (hm:m < 3):subD ((b.env s).nu z tz Y T) (uqX m)=b.uqV m:=by
 have:m=0∨m=1∨m=2:=by omega
 rcases this with rfl|rfl|rfl<;>rfl
theorem sub_lk {m:Nat} (hm:m < 3):subD ((b.env s).nu z tz Y T) (lkX m)=b.lkV m:=by
 have:m=0∨m=1∨m=2:=by omega
 rcases this with rfl|rfl|rfl<;>rfl
theorem sub_ck:subDL ((b.env s).nu z tz Y T) (ckX b.ck.isSome)=(wX b.ck).L:=by
 cases h:b.ck with
 | none=>rfl
 | some e =>
  show subDL _ (eaL 60)=e.e7.L
  have:(b.env s).e=e.e7:=by show wX b.ck=_;rw [h];rfl
  rw [← this];rfl
theorem subDL_app (nu:Nat→PV) (l m:List PV):subDL nu (l++m)=subDL nu l++subDL nu m:=by rw [subDL_map,subDL_map,subDL_map,List.map_append]
theorem sub_tab {k:Nat} {key uq key' uq' lk lk':PV} {ck:List PV} {g:E7} (hk:k≤4) (h1:subD ((b.env s).nu z tz Y T) key=key') (h2:subD ((b.env s).nu z tz Y T) uq=uq') (h3:subDL ((b.env s).nu z tz Y T) ck=g.L) (h4:subD ((b.env s).nu z tz Y T) lk=lk') :
  subDL ((b.env s).nu z tz Y T) (tabX k key uq ck lk)=tabV b.nm k b.ty b.nn key' uq' g lk':=by
 unfold tabX tabV
 rw [subDL_app,subDL_app,h3]
 show [PV.str b.nm,subD _ (colsX k),subD _ key,subD _ uq]++(g.L++[subD _ lk])=_
 rw [h1,h2,h4,sub_cols b s z tz Y T hk]
end
theorem good_uq (b:Tb) (m:Nat):((b.uqV m).clean&&(b.uqV m).pure)=true:=by
 unfold Tb.uqV
 split
 ·rfl
 ·show (true&&PV.pureL _)=true
  generalize List.range m=l
  induction l with
  | nil=>rfl
  | cons a l ih =>
   simp only [Bool.true_and] at ih ⊢
   simp only [List.map_cons,PV.pureL,ih];rfl
theorem good_lk (b:Tb) (m:Nat):((b.lkV m).clean&&(b.lkV m).pure)=true:=by
 unfold Tb.lkV
 split
 ·rfl
 ·show (true&&PV.pureL _)=true
  generalize List.range m=l
  induction l with
  | nil=>rfl
  | cons a l ih =>
   simp only [Bool.true_and] at ih ⊢
   simp only [List.map_cons,PV.pureL,ih];rfl
theorem cre_shape:((List.range 5).all fun k=>(List.range 3).all fun u=>bl fun ck=>(List.range 3).all fun l=>Nat.beq k 0||(adjC (creI k u ck l)&&(nx (creI k u ck l)&&(match (creI k u ck l).getLast? with|some (.tk _)=>true|_=>false))))=true:=by decide +kernel
theorem shape_of {k u l:Nat} (hk:1≤k∧k≤4) (hu:u < 3) (ck:Bool) (hl:l < 3):adjC (creI k u ck l)=true∧nx (creI k u ck l)=true∧∀ c,(creI k u ck l).getLast? = some c→∃ t,c = .tk t:=by
 have a:∀ {n:Nat} {f:Nat→Bool},(List.range n).all f=true→∀ {m},m < n→f m=true:=fun h m hm=>List.all_eq_true.1 h m (by rw [List.mem_range];exact hm)
 have h:=a (bl_all (a (a cre_shape (show k < 5 by omega)) hu) ck) hl
 have h0:Nat.beq k 0=false:=by
  cases k with
  | zero=>omega
  | succ k=>rfl
 rw [h0,Bool.false_or,Bool.and_eq_true,Bool.and_eq_true] at h
 refine ⟨h.1,h.2.1,fun c hc=>?_⟩
 have h3:=h.2.2
 rw [hc] at h3
 cases c with
 | tk t=>exact ⟨t,rfl⟩
 | _=>cases h3
theorem colI_mem:∀ (n i:Nat) (c:CI),c∈colI n i→c=cmk 4∨∃ m,m < i+n∧c = .col m
 | 0,_,_,h=>by cases h
 | n+1,i,c,h=>by
  simp only [colI,List.mem_cons] at h
  rcases h with rfl|rfl|h
  ·exact .inr ⟨i,by omega,rfl⟩
  ·exact .inl rfl
  ·rcases colI_mem n (i+1) c h with h|⟨m,hm,h⟩
   ·exact .inl h
   ·exact .inr ⟨m,by omega,h⟩
theorem uqI_mem (k:Nat):∀ (n i:Nat) (c:CI),c∈uqI k n i→c=cmk 4∨c=ckw "unique" ∨ ∃ m,m < i+n∧c = .ow (tabX k (.atom 1003) (uqX m) E7.zero.L .nilslice) (10+m)
 | 0,_,_,h=>by cases h
 | n+1,i,c,h=>by
  simp only [uqI,List.mem_cons] at h
  rcases h with rfl|rfl|rfl|h
  ·exact .inl rfl
  ·exact .inr (.inl rfl)
  ·exact .inr (.inr ⟨i,by omega,rfl⟩)
  ·rcases uqI_mem k n (i+1) c h with h|h|⟨m,hm,h⟩
   ·exact .inl h
   ·exact .inr (.inl h)
   ·exact .inr (.inr ⟨m,by omega,h⟩)
theorem lkI_mem (k u:Nat) (ck:Bool):∀ (n i:Nat) (c:CI),c∈lkI k u ck n i→c=cmk 4∨c=ckw "foreign" ∨ c=ckw "key" ∨ c=ckw "references" ∨ ∃ m,m < i+n∧(c = .ow (tabX k (.atom 1003) (uqX u) (ckX ck) (lkX m)) (12+m)∨c = .tk (.nm (5+m)))
 | 0,_,_,h=>by cases h
 | n+1,i,c,h=>by
  simp only [lkI,List.mem_cons] at h
  rcases h with rfl|rfl|rfl|rfl|rfl|rfl|h
  ·exact .inl rfl
  ·exact .inr (.inl rfl)
  ·exact .inr (.inr (.inl rfl))
  ·exact .inr (.inr (.inr (.inr ⟨i,by omega, .inl rfl⟩)))
  ·exact .inr (.inr (.inr (.inl rfl)))
  ·exact .inr (.inr (.inr (.inr ⟨i,by omega, .inr rfl⟩)))
  ·rcases lkI_mem k u ck n (i+1) c h with h|h|h|h|⟨m,hm,h⟩
   ·exact .inl h
   ·exact .inr (.inl h)
   ·exact .inr (.inr (.inl h))
   ·exact .inr (.inr (.inr (.inl h)))
   ·exact .inr (.inr (.inr (.inr ⟨m,by omega,h⟩)))
theorem kwOk:((["create", "table", "primary", "key", "unique", "check", "foreign", "references"]:List String).all fun a=>keysL.contains (kw a)&&wdB (kw a))=true:=by decide +kernel
theorem items_ok {b:Tb} (hb:b.Wf) (s:List UInt8):∀ c∈b.items,(b.env s).okC b.t b.e c:=by
 intro c hc
 have hkw:∀ a,a∈(["create", "table", "primary", "key", "unique", "check", "foreign", "references"]:List String)→(b.env s).okC b.t b.e (ckw a):=fun a ha=>by
  have:=List.all_eq_true.1 kwOk a ha
  rw [Bool.and_eq_true] at this
  exact this
 have hmk:∀ m,m < 11→m≠7→(b.env s).okC b.t b.e (cmk m):=fun m h1 h2=>⟨h1,h2⟩
 have how:∀ {key uq lk key' uq' lk':PV} {ckl:List PV} {g:E7} {r:Nat},(r=3∨r=10∨r=11∨r=12∨r=13)→([key',uq',lk'].all fun p=>p.clean&&p.pure)=true→g.ok=true→(∀ z tz Y T,subD ((b.env s).nu z tz Y T) key=key')→(∀ z tz Y T,subD ((b.env s).nu z tz Y T) uq=uq')→(∀ z tz Y T,subDL ((b.env s).nu z tz Y T) ckl=g.L)→(∀ z tz Y T,subD ((b.env s).nu z tz Y T) lk=lk')→(b.env s).okC b.t b.e (.ow (tabX b.k key uq ckl lk) r):=fun {key uq lk key' uq' lk' ckl g r} hr hg hgo h1 h2 h3 h4=>by
  refine ⟨hr,b.k,key',uq',g,lk',hb.k.2,?_,hg,hgo,fun z tz Y T=>?_⟩
  ·show b.R r < b.k
   rcases hr with rfl|rfl|rfl|rfl|rfl
   ·exact hb.key
   ·exact hb.uq 0
   ·exact hb.uq 1
   ·exact hb.lc 0
   ·exact hb.lc 1
  ·show PV.agg (subDL _ _)=_
   rw [sub_tab b s z tz Y T hb.k.2 (h1 z tz Y T) (h2 z tz Y T) (h3 z tz Y T) (h4 z tz Y T)]
   rfl
 have hu:=hb.u
 have hl:=hb.l
 unfold Tb.items creI at hc
 simp only [List.mem_append,List.mem_cons,List.not_mem_nil,or_false] at hc
 rcases hc with (rfl|rfl|rfl|rfl)|h|(rfl|rfl|rfl)|h|h|h|rfl
 ·exact hkw _ (by simp)
 ·exact hkw _ (by simp)
 ·exact ⟨.inl rfl,hb.nm.key,hb.nm.wd⟩
 ·exact hmk 2 (by decide) (by decide)
 ·rcases colI_mem _ _ _ h with rfl|⟨m,hm,rfl⟩
  ·exact hmk 4 (by decide) (by decide)
  ·exact ⟨by have:=hb.k.2;omega,hb.t m,rfl⟩
 ·exact hkw _ (by simp)
 ·exact hkw _ (by simp)
 ·exact how (key':=nI 0) (uq':=.nilslice) (lk':=.nilslice) (g:=E7.zero) (.inl rfl) rfl rfl (fun _ _ _ _=>rfl) (fun _ _ _ _=>rfl) (fun _ _ _ _=>rfl) (fun _ _ _ _=>rfl)
 ·rcases uqI_mem _ _ _ _ h with rfl|rfl|⟨m,hm,rfl⟩
  ·exact hmk 4 (by decide) (by decide)
  ·exact hkw _ (by simp)
  ·refine how (key':=nI b.key) (uq':=b.uqV m) (lk':=.nilslice) (g:=E7.zero) (by omega) ?_ rfl (fun _ _ _ _=>rfl) (fun z tz Y T=>sub_uq b s z tz Y T (by omega)) (fun _ _ _ _=>rfl) (fun _ _ _ _=>rfl)
   simp only [List.all_cons,good_uq b m];rfl
 ·cases hck:b.ck with
  | none=>rw [hck] at h;cases h
  | some e =>
   rw [hck] at h
   simp only [Option.isSome_some,ckI,List.mem_cons,List.not_mem_nil,or_false] at h
   rcases h with rfl|rfl|rfl|rfl|rfl
   ·exact hmk 4 (by decide) (by decide)
   ·exact hkw _ (by simp)
   ·exact hmk 2 (by decide) (by decide)
   ·have he:=hb.ck e hck
    have e1:b.e=e:=by unfold Tb.e;rw [hck];rfl
    refine ⟨?_,by rw [e1];exact he.wf,by rw [e1];exact he.dp⟩
    show wX b.ck=b.e.e7
    rw [e1,hck];rfl
   ·exact hmk 3 (by decide) (by decide)
 ·rcases lkI_mem _ _ _ _ _ _ h with rfl|rfl|rfl|rfl|⟨m,hm,rfl|rfl⟩
  ·exact hmk 4 (by decide) (by decide)
  ·exact hkw _ (by simp)
  ·exact hkw _ (by simp)
  ·exact hkw _ (by simp)
  ·refine how (key':=nI b.key) (uq':=b.uqV b.u) (lk':=b.lkV m) (g:=wX b.ck) (by omega) ?_ (wX_ok b.ck) (fun _ _ _ _=>rfl) (fun z tz Y T=>sub_uq b s z tz Y T hu) (fun z tz Y T=>sub_ck b s z tz Y T) (fun z tz Y T=>sub_lk b s z tz Y T (by omega))
   simp only [List.all_cons,good_uq b b.u,good_lk b m];rfl
  ·have h2:m=0∨m=1:=by omega
   rcases h2 with rfl|rfl
   ·exact ⟨.inr (.inl rfl),(hb.ln 0).key,(hb.ln 0).wd⟩
   ·exact ⟨.inr (.inr rfl),(hb.ln 1).key,(hb.ln 1).wd⟩
 ·exact hmk 3 (by decide) (by decide)
theorem items_adj {b:Tb} (hb:b.Wf):adj b.pcs=true:=(b.env []).adj_of b.t b.e b.items (shape_of hb.k hb.u b.ck.isSome hb.l).1
theorem items_wf {b:Tb} (hb:b.Wf):∀ p∈b.pcs,p.2.wf:=fun p hp=>by
 obtain ⟨c,hc,hp⟩:=List.mem_flatMap.1 hp
 exact (b.env []).wf_of b.t b.e (items_ok hb [] c hc) p hp
theorem val_pure (b:Tb):PV.pureL b.val=true:=tabV_pure (by simp only [List.all_cons,good_uq b b.u,good_lk b b.l];rfl) (wX_ok b.ck)
theorem pureL_app:∀ (l m:List PV),PV.pureL (l++m)=(PV.pureL l&&PV.pureL m)
 | [],_=>rfl
 | p::l,m=>by simp only [List.cons_append,PV.pureL,pureL_app l m,Bool.and_assoc]
theorem stT_pure (b:Tb):(stP 1 b.val [] [] [] .nilslice E7.zero E7.zero).pure=true:=by
 show PV.pureL (nI 1::(b.val++_))=true
 simp only [PV.pureL,pureL_app,val_pure b]
 rfl
theorem st_cre {b:Tb} (hb:b.Wf) {s:List UInt8} {i j:Nat} (h:Chain s b.pcs i j):StAt s i j (stP 1 b.val [] [] [] .nilslice E7.zero E7.zero):=by
 rw [← b.pcs_s s] at h
 have hc:=(b.env s).chn_of b.t b.e b.items (items_ok hb s) h
 obtain ⟨_,hnx,hla⟩:=shape_of hb.k hb.u b.ck.isSome hb.l
 have hk:=okRS_eq (cre_k hb.k hb.u b.ck.isSome hb.l)
 obtain ⟨y0,t0,r0,⟨p0,hp0⟩,hrun⟩:=(b.env s).run_of _ (ckw "create") hnx hc
 refine ⟨y0,t0,r0,by rw [hp0];show (1:Int)≠0;decide,fun z tz hz _=>?_⟩
 obtain ⟨Y,T,hy0,ht0,q⟩:=hrun hz (fun c hcl=>by
  obtain ⟨t,rfl⟩:=hla c hcl
  trivial)
 have hf:=(b.env s).facts_ok (z:=z) (tz:=tz) (Y:=Y) (T:=T) b.items 0 (fun m c hc=>by rw [Nat.zero_add];exact q.ev m c hc) (by rw [Nat.zero_add];exact q.y) (by rw [Nat.zero_add];exact q.t)
 have hnu:=(b.env s).nu_ok (z:=z) (tz:=tz) (Y:=Y) (T:=T) (wX_ok b.ck)
 have hT:=sub_tab b s z tz Y T (k:=b.k) (key:=.atom 1003) (uq:=uqX b.u) (lk:=lkX b.l) (ck:=ckX b.ck.isSome) (g:=wX b.ck) (key':=nI b.key) (uq':=b.uqV b.u) (lk':=b.lkV b.l) hb.k.2 rfl (sub_uq b s z tz Y T hb.u) (sub_ck b s z tz Y T) (sub_lk b s z tz Y T hb.l)
 have hR:subD ((b.env s).nu z tz Y T) (creR b.k b.u b.ck.isSome b.l)=stP 1 b.val [] [] [] .nilslice E7.zero E7.zero:=by
  show PV.agg (nI 1::subDL _ (tabX _ _ _ _ _++_))=_
  rw [subDL_app,hT]
  rfl
 have hs1:(Tk.res (.kw "create") 0).map (subRes ((b.env s).nu z tz Y T))=okL s (Y 0) (T 0) 0:=(b.env s).ci_res (c:=ckw "create") (q.ev 0 (ckw "create") rfl).1
 have:=EvS.facts (args:=[.box 0 0]) (s:=Tk.res (.kw "create") 0) (s':=gF 80) prog_ok hnu hk hf rfl (by rw [hs1];rfl) (by
  rw [hR,stT_pure b];rfl)
 rw [hR,hs1] at this
 rw [← hy0,← ht0]
 exact this
end Go.Proofs.YtdlkibeljkapeaaGreatDoor.Den
namespace Go.Proofs.YtdlkibeljkapeaaGreatDoor.Den
open Go Go.RowKit
inductive Sx where
 | cre (b:Tb)
 | drop (nm:List UInt8)
 | link (nm col dst:List UInt8)
 | ins (nm:List UInt8) (vs:List (V4 × List UInt8))
 | upd (nm col:List UInt8) (e:Xp) (w:Option Xp)
 | del (nm:List UInt8) (w:Option Xp)
 | slc (nm:List UInt8) (w:Option Xp)
 | cou (nm:List UInt8) (w:Option Xp)
def WhOk (w:Option Xp):Prop:=∀ e,w=some e→XpOk e
def Sx.wf:Sx→Prop
 | .cre b=>b.Wf
 | .drop nm=>NmOk nm
 | .link nm col dst=>NmOk nm∧NmOk col∧NmOk dst
 | .ins nm vs=>NmOk nm∧vs≠[]∧vs.length≤5∧∀ v∈vs,LitOk v.1 v.2∧nobl v.2
 | .upd nm col e w=>NmOk nm∧NmOk col∧XpOk e∧WhOk w
 | .del nm w | .slc nm w | .cou nm w=>NmOk nm∧WhOk w
def Sx.pv:Sx→PV
 | .cre b=>stP 1 b.val [] [] [] .nilslice E7.zero E7.zero
 | .drop nm=>stP 2 tableZ nm [] [] .nilslice E7.zero E7.zero
 | .link nm col dst=>stP 3 tableZ nm col dst .nilslice E7.zero E7.zero
 | .ins nm vs=>stP 4 tableZ nm [] [] (rowP vs) E7.zero E7.zero
 | .upd nm col e w=>stP 5 tableZ nm col [] .nilslice e.e7 (wX w)
 | .del nm w=>stP 6 tableZ nm [] [] .nilslice E7.zero (wX w)
 | .slc nm w=>stP 7 tableZ nm [] [] .nilslice E7.zero (wX w)
 | .cou nm w=>stP 8 tableZ nm [] [] .nilslice E7.zero (wX w)
def Sx.pcs:Sx→List Pc
 | .cre b=>b.pcs
 | .drop nm=>[(false, .w (kw "drop")),(true, .w (kw "table")),(true, .w nm)]
 | .link nm col dst=>[(false, .w (kw "alter")),(true, .w (kw "table")),(true, .w nm),(true, .w (kw "add")),(true, .w (kw "foreign")),(true, .w (kw "key")),(true, .m 2),(false, .w col),(false, .m 3),(true, .w (kw "references")),(true, .w dst)]
 | .ins nm vs=>[(false, .w (kw "insert")),(true, .w (kw "into")),(true, .w nm),(true, .w (kw "values")),(true, .m 2)]++(valsP false vs++[(false, .m 3)])
 | .upd nm col e w=>[(false, .w (kw "update")),(true, .w nm),(true, .w (kw "set")),(true, .w col),(true, .m 6),(true, .x e)]++whP w
 | .del nm w=>[(false, .w (kw "delete")),(true, .w (kw "from")),(true, .w nm)]++whP w
 | .slc nm w=>[(false, .w (kw "select")),(true, .m 10),(true, .w (kw "from")),(true, .w nm)]++whP w
 | .cou nm w=>[(false, .w (kw "select")),(true, .w (kw "count")),(false, .m 2),(false, .m 10),(false, .m 3),(true, .w (kw "from")),(true, .w nm)]++whP w
def Sx.txt (x:Sx):List UInt8:=pTxt x.pcs
theorem sx_at {x:Sx} (hx:x.wf) {s:List UInt8} {i j:Nat} (h:Chain s x.pcs i j):StAt s i j x.pv:=by
 match x,hx,h with
 | .cre b,hx,h=>exact st_cre hx h
 | .drop nm,hx,h=>exact st_drop hx.key h
 | .link nm col dst,hx,h=>exact st_link hx.1.key hx.2.1.key hx.2.2.key h
 | .ins nm vs,hx,h=>exact st_ins hx.1.key hx.2.1 hx.2.2.1 h
 | .upd nm col e w,hx,h=>exact st_upd hx.1.key hx.2.1.key h
 | .del nm w,hx,h=>exact st_del hx.1.key h
 | .slc nm w,hx,h=>exact st_slc hx.1.key h
 | .cou nm w,hx,h=>exact st_cou hx.1.key h
theorem vals_adj:∀ (vs:List (V4 × List UInt8)) (b:Bool),adj (valsP b vs++[(false, .m 3)])=true
 | [],_=>rfl
 | [v],_=>rfl
 | v::w::vs,b=>by
  have ih:=vals_adj (w::vs) true
  have hh:∃ p r,valsP true (w::vs)=p::r:=by
   cases vs with
   | nil=>exact ⟨_,_,rfl⟩
   | cons a l=>exact ⟨_,_,rfl⟩
  obtain ⟨p,r,hp⟩:=hh
  show adj ((b,It.v v.1 v.2)::(false,It.m 4)::(valsP true (w::vs)++[(false, .m 3)]))=true
  rw [hp] at ih ⊢
  show (true&&(true&&adj (p::(r++[(false, .m 3)]))))=true
  rw [show adj (p::(r++[(false, .m 3)]))=true from ih];rfl
theorem sx_adj {x:Sx} (hx:x.wf):adj x.pcs=true:=by
 match x,hx with
 | .cre b,hx=>exact items_adj hx
 | .drop nm,_=>rfl
 | .link nm col dst,_=>rfl
 | .ins nm vs,hx =>
  have h:=vals_adj vs false
  have hh:∃ p r,valsP false vs=p::r:=by
   have:=hx.2.1
   cases vs with
   | nil=>exact absurd rfl this
   | cons v vs =>
    cases vs with
    | nil=>exact ⟨_,_,rfl⟩
    | cons a l=>exact ⟨_,_,rfl⟩
  obtain ⟨p,r,hp⟩:=hh
  show adj ([(false,It.w (kw "insert")),(true, .w (kw "into")),(true, .w nm),(true, .w (kw "values")),(true, .m 2)]++(valsP false vs++[(false, .m 3)]))=true
  rw [hp] at h ⊢
  show (true&&(true&&(true&&(true&&(true&&adj (p::(r++[(false, .m 3)])))))))=true
  rw [show adj (p::(r++[(false, .m 3)]))=true from h];rfl
 | .upd nm col e w,_=>cases w<;>rfl
 | .del nm w,_=>cases w<;>rfl
 | .slc nm w,_=>cases w<;>rfl
 | .cou nm w,_=>cases w<;>rfl
theorem vals_wf:∀ (vs:List (V4 × List UInt8)) (b:Bool),(∀ v∈vs,LitOk v.1 v.2∧nobl v.2)→∀ p∈valsP b vs,p.2.wf
 | [],_,_,p,hp=>by cases hp
 | [v],b,h,p,hp=>by
  obtain rfl:p=(b, .v v.1 v.2):=by simpa [valsP] using hp
  exact h v (by simp)
 | v::w::vs,b,h,p,hp=>by
  simp only [valsP,List.mem_cons] at hp
  rcases hp with rfl|rfl|hp
  ·exact h v (by simp)
  ·exact ⟨by decide,by decide⟩
  ·exact vals_wf (w::vs) true (fun x hx=>h x (by simp at hx ⊢;exact .inr hx)) p hp
theorem kwWd:((["drop", "table", "alter", "add", "foreign", "key", "references", "insert", "into", "values", "update", "set", "delete", "from", "select", "count", "where"]:List String).all fun a=>wdB (kw a))=true:=by decide +kernel
theorem sx_pwf {x:Sx} (hx:x.wf):∀ p∈x.pcs,p.2.wf:=by
 have hk:∀ a,a∈(["drop", "table", "alter", "add", "foreign", "key", "references", "insert", "into", "values", "update", "set", "delete", "from", "select", "count", "where"]:List String)→(It.w (kw a)).wf:=fun a ha=>List.all_eq_true.1 kwWd a ha
 have hm:∀ m,m < 11→m≠7→(It.m m).wf:=fun m h1 h2=>⟨h1,h2⟩
 have hw:∀ w,WhOk w→∀ p∈whP w,p.2.wf:=fun w h p hp=>by
  cases w with
  | none=>cases hp
  | some e =>
   simp only [whP,List.mem_cons,List.not_mem_nil,or_false] at hp
   rcases hp with rfl|rfl
   ·exact hk _ (by simp)
   ·exact ⟨(h e rfl).wf,(h e rfl).dp⟩
 match x,hx with
 | .cre b,hx=>exact items_wf hx
 | .drop nm,hx =>
  intro p hp
  simp only [Sx.pcs,List.mem_cons,List.not_mem_nil,or_false] at hp
  rcases hp with rfl|rfl|rfl
  ·exact hk _ (by simp)
  ·exact hk _ (by simp)
  ·exact hx.wd
 | .link nm col dst,hx =>
  intro p hp
  simp only [Sx.pcs,List.mem_cons,List.not_mem_nil,or_false] at hp
  rcases hp with rfl|rfl|rfl|rfl|rfl|rfl|rfl|rfl|rfl|rfl|rfl
  ·exact hk _ (by simp)
  ·exact hk _ (by simp)
  ·exact hx.1.wd
  ·exact hk _ (by simp)
  ·exact hk _ (by simp)
  ·exact hk _ (by simp)
  ·exact hm 2 (by decide) (by decide)
  ·exact hx.2.1.wd
  ·exact hm 3 (by decide) (by decide)
  ·exact hk _ (by simp)
  ·exact hx.2.2.wd
 | .ins nm vs,hx =>
  intro p hp
  simp only [Sx.pcs,List.mem_append,List.mem_cons,List.not_mem_nil,or_false] at hp
  rcases hp with (rfl|rfl|rfl|rfl|rfl)|hp|rfl
  ·exact hk _ (by simp)
  ·exact hk _ (by simp)
  ·exact hx.1.wd
  ·exact hk _ (by simp)
  ·exact hm 2 (by decide) (by decide)
  ·exact vals_wf vs false hx.2.2.2 p hp
  ·exact hm 3 (by decide) (by decide)
 | .upd nm col e w,hx =>
  intro p hp
  simp only [Sx.pcs,List.mem_append,List.mem_cons,List.not_mem_nil,or_false] at hp
  rcases hp with (rfl|rfl|rfl|rfl|rfl|rfl)|hp
  ·exact hk _ (by simp)
  ·exact hx.1.wd
  ·exact hk _ (by simp)
  ·exact hx.2.1.wd
  ·exact hm 6 (by decide) (by decide)
  ·exact ⟨hx.2.2.1.wf,hx.2.2.1.dp⟩
  ·exact hw w hx.2.2.2 p hp
 | .del nm w,hx =>
  intro p hp
  simp only [Sx.pcs,List.mem_append,List.mem_cons,List.not_mem_nil,or_false] at hp
  rcases hp with (rfl|rfl|rfl)|hp
  ·exact hk _ (by simp)
  ·exact hk _ (by simp)
  ·exact hx.1.wd
  ·exact hw w hx.2 p hp
 | .slc nm w,hx =>
  intro p hp
  simp only [Sx.pcs,List.mem_append,List.mem_cons,List.not_mem_nil,or_false] at hp
  rcases hp with (rfl|rfl|rfl|rfl)|hp
  ·exact hk _ (by simp)
  ·exact hm 10 (by decide) (by decide)
  ·exact hk _ (by simp)
  ·exact hx.1.wd
  ·exact hw w hx.2 p hp
 | .cou nm w,hx =>
  intro p hp
  simp only [Sx.pcs,List.mem_append,List.mem_cons,List.not_mem_nil,or_false] at hp
  rcases hp with (rfl|rfl|rfl|rfl|rfl|rfl|rfl)|hp
  ·exact hk _ (by simp)
  ·exact hk _ (by simp)
  ·exact hm 2 (by decide) (by decide)
  ·exact hm 10 (by decide) (by decide)
  ·exact hm 3 (by decide) (by decide)
  ·exact hk _ (by simp)
  ·exact hx.1.wd
  ·exact hw w hx.2 p hp
theorem sx_ne (x:Sx):x.pcs≠[]:=by
 cases x<;>(intro h;cases h)
theorem sx_pure {x:Sx}:(x.pv.pure&&(match x.pv with | .agg cs=>cs.all PV.clean|_=>false))=true:=by
 have hX:∀ w:Option Xp,PV.pureL (wX w).L=true∧(wX w).L.all PV.clean=true:=fun w=>by
  have h:=wX_ok w
  simp only [E7.ok,E7.L,List.all_cons,List.all_nil,Bool.and_eq_true,Bool.and_true] at h
  simp [E7.L,PV.pureL,h]
 have hE:∀ e:Xp,PV.pureL e.e7.L=true∧e.e7.L.all PV.clean=true:=fun e=>by
  have h:=e7_ok e
  simp only [E7.ok,E7.L,List.all_cons,List.all_nil,Bool.and_eq_true,Bool.and_true] at h
  simp [E7.L,PV.pureL,h]
 have hT:∀ b:Tb,b.val.all PV.clean=true:=fun b=>by
  have h1:=good_uq b b.u
  have h2:=good_lk b b.l
  have h3:=(hX b.ck).2
  simp only [Bool.and_eq_true] at h1 h2
  show ([PV.str b.nm,_,_,_]++((wX b.ck).L++[_])).all PV.clean=true
  rw [List.all_append,List.all_append,h3]
  simp only [List.all_cons,h1.1,h2.1]
  rfl
 have gen:∀ (k:Int) (T:List PV) (nm col dst:List UInt8) (row:PV) (e w:E7),PV.pureL T=true→T.all PV.clean=true→(row.clean&&row.pure)=true→PV.pureL e.L=true∧e.L.all PV.clean=true→PV.pureL w.L=true∧w.L.all PV.clean=true→((stP k T nm col dst row e w).pure&&(match stP k T nm col dst row e w with | .agg cs=>cs.all PV.clean|_=>false))=true:=fun k T nm col dst row e w h1 h2 h3 h4 h5=>by
  simp only [Bool.and_eq_true] at h3
  show (PV.pureL (nI k::(T++([.str nm, .str col, .str dst,row]++(e.L++w.L))))&&(nI k::(T++([PV.str nm, .str col, .str dst,row]++(e.L++w.L)))).all PV.clean)=true
  simp only [PV.pureL,pureL_app,List.all_cons,List.all_append,h1,h2,h3,h4,h5]
  rfl
 have z0:PV.pureL E7.zero.L=true∧E7.zero.L.all PV.clean=true:=⟨rfl,rfl⟩
 cases x with
 | cre b=>exact gen _ _ _ _ _ _ _ _ (val_pure b) (hT b) rfl z0 z0
 | drop nm=>exact gen _ _ _ _ _ _ _ _ rfl rfl rfl z0 z0
 | link nm col dst=>exact gen _ _ _ _ _ _ _ _ rfl rfl rfl z0 z0
 | ins nm vs=>exact gen _ _ _ _ _ _ _ _ rfl rfl (by show (true&&PV.pureL _)=true;rw [row_pure];rfl) z0 z0
 | upd nm col e w=>exact gen _ _ _ _ _ _ _ _ rfl rfl rfl (hE e) (hX w)
 | del nm w=>exact gen _ _ _ _ _ _ _ _ rfl rfl rfl z0 (hX w)
 | slc nm w=>exact gen _ _ _ _ _ _ _ _ rfl rfl rfl z0 (hX w)
 | cou nm w=>exact gen _ _ _ _ _ _ _ _ rfl rfl rfl z0 (hX w)
end Go.Proofs.YtdlkibeljkapeaaGreatDoor.Den
namespace Go.Proofs.YtdlkibeljkapeaaGreatDoor.Den
open Go Go.RowKit
def s31 (j:Nat):PV:=.agg ((List.range 31).map fun i=>.atom (j+i))
def eoS (j:Nat):List Res:=okP (.atom 0) (nI 0) (.atom j) (.str []) (nI 0) (nI 0) (nI 0) (.str []) (.atom (j+1)) (nI 0)
def paF:List Fact:=[.op (.len ty_string) [.atom 0] (.atom 1),oI .gtr (.atom 1) (nI 4000) (.bool false), .prim f_sql_read [.atom 0,nI 0] (.tup [sgA (.atom 10) (.atom 11) (.atom 12) (.atom 13) (.atom 14) (.atom 15) (.atom 16) (nI 0), .atom 17]),oI .eql (.atom 10) (nI 6) (.bool false),
 .st f_sql_parser_stmt [.box 0 0] (gS 10) (s31 30) (eoS 20)]
theorem pa_k:okR (.tup [s31 30,nI 0,nI 0]) (callF PG (fOrc noOwn paF) 30 f_sql_Parse [.atom 0] [])=true:=by kernel_rfl
end Go.Proofs.YtdlkibeljkapeaaGreatDoor.Den
namespace Go.Proofs.YtdlkibeljkapeaaGreatDoor.Den
open Go Go.RowKit
def Sx.cells (x:Sx):List PV:=match x.pv with | .agg cs=>cs|_=>[]
theorem sx_cells (x:Sx):x.pv = .agg x.cells:=by cases x<;>rfl
theorem sx_len (x:Sx):x.cells.length=31:=by cases x<;>rfl
theorem sx_good (x:Sx):(x.cells.all fun p=>p.clean&&p.pure)=true:=by
 have h:=sx_pure (x:=x)
 rw [sx_cells] at h
 simp only [PV.pure,Bool.and_eq_true] at h
 refine List.all_eq_true.2 fun p hp=>?_
 rw [Bool.and_eq_true]
 exact ⟨List.all_eq_true.1 h.2 p hp,pureL_mem h.1 p hp⟩
theorem s31_sub {nu:Nat→PV} {j:Nat} {C:List PV} (hl:C.length=31) (h:∀ i,i < 31→nu (j+i)=C.getD i (nI 0)):subD nu (s31 j) = .agg C:=by
 show PV.agg (subDL nu _)=_
 rw [subDL_map,List.map_map]
 congr 1
 refine List.ext_getElem? fun i=>?_
 rw [List.getElem?_map]
 by_cases hi:i < 31
 ·rw [List.getElem?_range hi,List.getElem?_eq_getElem (by omega)]
  show some (nu (j+i))=_
  rw [h i hi,List.getD_eq_getElem?_getD,List.getElem?_eq_getElem (by omega)]
  rfl
 ·rw [List.getElem?_eq_none (by simp;omega),List.getElem?_eq_none (by omega)]
  rfl
theorem nuL_at {pre C:List PV} {j i:Nat} (hp:pre.length=j) (hi:i < C.length) (hj:j+C.length≤1000):nuL (pre++C) (j+i)=C.getD i (nI 0):=by
 show nuFl _ _ _=_
 unfold nuFl
 rw [show Nat.ble 1000 (j+i)=false by rw [← Bool.not_eq_true,Nat.ble_eq];omega]
 show (pre++C).getD (j+i) (.bool false)=_
 rw [List.getD_eq_getElem?_getD,List.getElem?_append_right (by omega),List.getD_eq_getElem?_getD,show j+i - pre.length=i by omega,List.getElem?_eq_getElem hi]
 rfl
theorem endOk_blank {g:List UInt8} (h:g.all isBlank=true):endOk g=true:=by
 cases g with
 | nil=>rfl
 | cons c g =>
  simp only [List.all_cons,Bool.and_eq_true,isBlank,Bool.or_eq_true,beq_iff_eq] at h
  rcases h.1 with rfl|rfl<;>rfl
theorem end_zok (a:Nat):zok (endSg a):=⟨rfl,end_stops a⟩
def paNu (s:List UInt8) (y:Sg) (tu:Nat) (C:List PV):List PV:=[.str s,nI s.length,nI 0,nI 0,nI 0,nI 0,nI 0,nI 0,nI 0,nI 0]++(sv y tu++([nI 0,nI 0,nI s.length,nI s.length,nI 0,nI 0,nI 0,nI 0,nI 0,nI 0,nI 0,nI 0]++C))
theorem sx_tup (x:Sx):((PV.tup [x.pv,nI 0,nI 0]).pure&&(PV.tup [x.pv,nI 0,nI 0]).shut2)=true:=by
 have h:=sx_pure (x:=x)
 rw [sx_cells] at h ⊢
 simp only [Bool.and_eq_true] at h
 show ((PV.pure (.agg x.cells)&&(true&&(true&&true)))&&(x.cells.all PV.clean&&(true&&(true&&true))))=true
 rw [h.1,show x.cells.all PV.clean=true from h.2];rfl
theorem parse_ev {x:Sx} (hx:x.wf) {t g0 g1 s:List UInt8} (ht:Wr x.pcs t) (hg0:g0.all isBlank=true) (hg1:g1.all isBlank=true) (hs:s=g0++(t++g1)) (hl:s.length≤4000):Ev PG f_sql_Parse [.str s] (.tup [x.pv,nI 0,nI 0]):=by
 obtain ⟨j,hc,hd,hj⟩:=chain_of hl x.pcs (sx_ne x) (sx_pwf hx) (sx_adj hx) ht (Nat.zero_le _) hg0 (endOk_blank hg1) (i:=0) (by rw [hs];rfl)
 obtain ⟨y,tu,hy,hk,h⟩:=sx_at hx hc
 have hev:=h _ _ (rd_end (by omega) hj hd hg1) (end_zok _)
 have hye:=hy.ev
 have h0:=hy.e
 have hyk:=hy.k
 obtain ⟨k,ya,w,yv,e⟩:=y
 dsimp only at h0 hyk
 subst h0
 have hS:subD (nuL (paNu s ⟨k,ya,w,yv,0⟩ tu x.cells)) (s31 30)=x.pv:=by
  rw [sx_cells]
  refine s31_sub (sx_len x) fun i hi=>?_
  exact nuL_at (pre:=[.str s,nI s.length,nI 0,nI 0,nI 0,nI 0,nI 0,nI 0,nI 0,nI 0]++(sv ⟨k,ya,w,yv,0⟩ tu++[nI 0,nI 0,nI s.length,nI s.length,nI 0,nI 0,nI 0,nI 0,nI 0,nI 0,nI 0,nI 0])) rfl (by rw [sx_len];exact hi) (by rw [sx_len];decide)
 have hnu:NuOk (nuL (paNu s ⟨k,ya,w,yv,0⟩ tu x.cells)):=by
  refine nuL_okB ?_
  unfold paNu
  rw [List.all_append,List.all_append,List.all_append,sx_good x]
  rfl
 have:=Ev.facts (nu:=nuL (paNu s ⟨k,ya,w,yv,0⟩ tu x.cells)) (args:=[.atom 0]) (r:=.tup [s31 30,nI 0,nI 0]) prog_ok hnu (okR_eq pa_k)
  ⟨fStrLen rfl rfl rfl,fCmp (c:=false) (a:=s.length) (b:=4000) rfl rfl rfl (by simp only [intP];rw [decide_eq_false (by omega)]) (by decide) rfl,fprim hye rfl rfl rfl,fCmp (c:=false) rfl rfl rfl (by rw [i64eq,beq_eq_false_iff_ne.2 hyk]) (by decide) rfl,
   fst1 hev rfl rfl hS rfl rfl,trivial⟩ rfl (by
    show ((PV.tup [subD _ (s31 30),nI 0,nI 0]).pure&&(PV.tup [subD _ (s31 30),nI 0,nI 0]).shut2)=true
    rw [hS];exact sx_tup x)
 have e:subD (nuL (paNu s ⟨k,ya,w,yv,0⟩ tu x.cells)) (.tup [s31 30,nI 0,nI 0]) = .tup [x.pv,nI 0,nI 0]:=by
  show PV.tup [subD _ (s31 30),nI 0,nI 0]=_
  rw [hS]
 rw [e] at this
 exact this
end Go.Proofs.YtdlkibeljkapeaaGreatDoor.Den
