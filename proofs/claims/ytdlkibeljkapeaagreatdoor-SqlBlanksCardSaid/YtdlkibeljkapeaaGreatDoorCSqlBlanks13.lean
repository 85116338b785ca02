-- Written by drive.py and pack.py (programs of this proof's own) through the kit's printer; not trusted: Lean checks it.
import Derived.Test.YtdlkibeljkapeaaGreatDoorCSqlBlanks12
namespace Go.Proofs.YtdlkibeljkapeaaGreatDoor.Den
open Go Go.RowKit
def gapB (g:Nat):List UInt8:=match g with|0=>[]|1=>[32]|2=>[10]|_=>[32,10,32,32]
def blT (i t:PV) (b:Bool):List (Nat × PV):=[(5, .atom 1),(13, .box 0 0),(14, .atom 0),(15,t),(16, .bool b),(17,i)]
def blS:List Res:=[.box ((List.range 31).map fun i=>.atom (100+i))]
def blA (q b:Bool):List Fact:=[.op (.len ty_string) [.atom 0] (.atom 4),oI .lss (.atom 3) (.atom 4) (.bool true), .op (.index ty_string) [.atom 0, .atom 3] (.atom 5),bI .eql (.atom 5) 39 q,oI .add (.atom 3) (nI 1) (.atom 6), .op (.slice ty_string true true) [.atom 0, .atom 3, .atom 6] (.atom 7),sA (.atom 2) (.atom 7) (.atom 8),bI .eql (.atom 5) 32 b, .op (.len ty_sl_int) [.atom 1] (.atom 9)]
def blG (gg:Nat):List Fact:=match gg with|0=>[oI .lss (.atom 3) (.atom 9) (.bool false)]|g+1=>[oI .lss (.atom 3) (.atom 9) (.bool true), .op (.ix ty_sl_int) [.atom 1, .atom 3] (.ref [.atom 10]), .prim f_l3_within [.atom 10,nI 4] (nI g),sA (.atom 8) (.str (gapB g)) (.atom 11)]
noncomputable abbrev blRun (fs:List Fact) (T:List (Nat × PV)):Option (Ex × St):=execN PG (fOrc noOwn fs) (callF PG (fOrc noOwn fs) 5) ((fOrc noOwn fs).loop f_l3_SqlBlanks) 5 3 (loopAt PG f_l3_SqlBlanks 10) ⟨T,blS⟩
theorem bl_lone:loneB PG f_l3_SqlBlanks 10=true:=by kernel_rfl
def blN (inn q b:Bool) (gg:Nat):PV:=match b && !(inn != q) with|false=>.atom 8|true=>(match gg with|0=>.atom 8|_=>.atom 11)
theorem bl_r:(bl fun inn=>bl fun q=>bl fun b=>(List.range 5).all fun gg=>runsB (blRun (blA q b++blG gg) (blT (.atom 3) (.atom 2) inn)) .normal (blT (.atom 6) (blN inn q b gg) (inn != q)) blS)=true:=by kernel_rfl
theorem bl_e:(bl fun inn=>runsB (blRun [.op (.len ty_string) [.atom 0] (.atom 4),oI .lss (.atom 3) (.atom 4) (.bool false)] (blT (.atom 3) (.atom 2) inn)) (.exit 0) [(13, .box 0 0),(15, .atom 2)] blS)=true:=by kernel_rfl
def blL (fw fc:Bool):List Fact:=[.prim f_l3_known [] (.bool true), .prim f_l3_Few [.atom 33] (.bool fw), .prim f_l3_Few [.atom 34] (.bool fc)]
def blM (q:Bool):List Fact:=[.prim f_l3_Stmt [.atom 30, .atom 31, .atom 32, .str [97,32,98], .atom 33, .atom 34] (s31 100), .prim f_r3_Text [s31 100] (.atom 0), .loop f_l3_SqlBlanks 10 (blT (nI 0) (.str [10,32]) false) blS (.exit 0) [(13, .box 0 0),(15, .atom 12)] blS, .op (.len ty_string) [.atom 12] (.atom 13),oI .gtr (.atom 13) (nI 3990) (.bool q)]
def blP:List Fact:=[sA (.atom 12) (.str [32,10]) (.atom 14), .prim f_sql_Parse [.atom 14] (.tup [s31 100,nI 0,nI 0]), .prim f_r3_Same [s31 100,s31 100] (.bool true)]
noncomputable abbrev blK (fs:List Fact):Bool:=okR (.bool true) (callF PG (fOrc noOwn fs) 30 f_l3_SqlBlanks [.atom 30, .atom 31, .atom 32, .atom 33, .atom 34, .atom 1] [])
theorem bl_k0:(blK (blL false true)&&(blK (blL true false)&&blK (blL false false)))=true:=by kernel_rfl
theorem bl_k1:blK (blL true true++blM true)=true:=by kernel_rfl
theorem bl_k2:blK (blL true true++(blM false++blP))=true:=by kernel_rfl
end Go.Proofs.YtdlkibeljkapeaaGreatDoor.Den
namespace Go.Proofs.YtdlkibeljkapeaaGreatDoor.Den
open Go Go.RowKit
def gx (gs:List Int) (i:Nat):List UInt8:=if i < gs.length then gapB (wthn (gs.getD i 0) 4).toNat else []
def exB (gs:List Int):Nat→Bool→List UInt8→List UInt8
 | _,_,[]=>[]
 | i,b,c::r=>(c::(match c==32 && !(b != (c==39)) with|true=>gx gs i|false=>[]))++exB gs (i+1) (b != (c==39)) r
theorem gapB_len:∀ g,(gapB g).length≤4:=by
 intro g
 match g with
 | 0|1|2=>decide
 | g+3=>show [32,10,32,32].length≤4;decide
theorem gapB_blank:∀ g,(gapB g).all isBlank=true:=by
 intro g
 match g with
 | 0|1|2=>rfl
 | g+3=>rfl
theorem gx_len (gs:List Int) (i:Nat):(gx gs i).length≤4:=by
 unfold gx
 split
 ·exact gapB_len _
 ·simp
theorem gx_blank (gs:List Int) (i:Nat):(gx gs i).all isBlank=true:=by
 unfold gx
 split
 ·exact gapB_blank _
 ·rfl
def blNu (s:List UInt8) (gv:PV) (gs:List Int) (t:List UInt8) (i:Nat) (c:UInt8) (g1:List UInt8) (C:List PV):List PV :=
 ([.str s,gv, .str t,nI i,nI s.length,nB c,nI (i+1:Nat), .str [c], .str (t++[c]),nI gs.length,nI (gs.getD i 0), .str (t++[c]++g1)]++List.replicate 88 (nI 0))++C
theorem blNu_ok {s:List UInt8} {gv:PV} {gs:List Int} (hg:goodA gv) {t:List UInt8} {i:Nat} {c:UInt8} {g1:List UInt8} {C:List PV} (hC:(C.all fun p=>p.clean&&p.pure)=true):NuOk (nuL (blNu s gv gs t i c g1 C)):=by
 refine nuL_okB ?_
 unfold blNu
 rw [List.all_append,List.all_append,hC]
 simp only [List.all_cons,hg.1]
 rfl
theorem blS_sub {l C:List PV} (hl:l.length=100) (hC:C.length=31):blS.map (subRes (nuL (l++C)))=[.box C]:=by
 have h:=s31_sub (nu:=nuL (l++C)) (j:=100) hC (fun i hi=>nuL_at hl (by omega) (by omega))
 have h2:subDL (nuL (l++C)) ((List.range 31).map fun i=>.atom (100+i))=C:=by
  have h3:PV.agg (subDL (nuL (l++C)) ((List.range 31).map fun i=>.atom (100+i))) = .agg C:=h
  exact PV.agg.inj h3
 show [Res.box (((List.range 31).map fun i=>PV.atom (100+i)).map (subD (nuL (l++C))))]=_
 rw [← subDL_map,h2]
theorem blS_fn (nu:Nat→PV):blS.all (fnRes nu)=true:=rfl
set_option maxRecDepth 40000 in
theorem bl_loop {s:List UInt8} {gv:PV} {gs:List Int} (hgv:gv = .slice 1 (gs.map (.int .i64))∨(gv = .nilslice∧gs=[])) (hs:s.length≤1000000) {C:List PV} (hC:C.length=31) (hCg:(C.all fun p=>p.clean&&p.pure)=true) :
  ∀ (r:List UInt8) (i:Nat) (b:Bool) (t:List UInt8),s.drop i=r→t.length+5*r.length≤10000000 →
   RunsR PG (ntOf PG f_l3_SqlBlanks) (loopAt PG f_l3_SqlBlanks 10) [(5,gv),(13, .box 0 0),(14, .str s),(15, .str t),(16, .bool b),(17,nI i)] [.box C] (.exit 0) [(13, .box 0 0),(15, .str (t++exB gs i b r))] [.box C]:=by
 have gg:goodA gv:=ints_good hgv
 have hgp:=gg.1
 rw [Bool.and_eq_true] at hgp
 have hpC:C.all PV.pure=true:=List.all_eq_true.2 fun p hp=>by
  have:=List.all_eq_true.1 hCg p hp
  rw [Bool.and_eq_true] at this
  exact this.2
 have hpR:([Res.box C].all pureRes)=true:=by
  have h1:pureRes (.box C)=true:=pureL_of fun p hp=>List.all_eq_true.1 hpC p hp
  rw [List.all_cons,h1];rfl
 intro r
 induction r with
 | nil =>
  intro i b t hi hl
  have hlen:s.length≤i:=by
   have:=congrArg List.length hi
   simp at this;omega
  refine RunsR.leave ?_ (fun h=>by cases h)
  have hsub:blS.map (subRes (nuL (blNu s gv gs t i 0 [] C)))=[.box C]:=blS_sub rfl hC
  have:=RunsP.chk prog_ok (blNu_ok (s:=s) (gs:=gs) gg (t:=t) (i:=i) (c:=0) (g1:=[]) hCg) (T:=blT (.atom 3) (.atom 2) b) (s:=blS) (T':=[(13, .box 0 0),(15, .atom 2)]) (s':=blS) bl_lone (bl_all bl_e b)
   ⟨fStrLen rfl rfl rfl,fCmp (a:=i) (b:=s.length) (c:=false) rfl rfl rfl (by simp only [intP];rw [decide_eq_false (by omega)]) (by decide) rfl,trivial⟩
   (by
    show ((gv.pure&&(true&&(true&&(true&&(true&&(true&&true))))))&&(gv.one&&(true&&(true&&(true&&(true&&(true&&true)))))))=true
    rw [hgp.2,gg.2];rfl)
   (by rw [hsub,blS_fn,hpR];rfl) (by rw [hsub,hpR];rfl)
  rw [hsub] at this
  have e:t++exB gs i b []=t:=by simp [exB]
  rw [e]
  exact this
 | cons c r ih =>
  intro i b t hi hl
  simp only [List.length_cons] at hl
  obtain ⟨hil,hci⟩:=drop_le hi
  have hr:s.drop (i+1)=r:=by
   have:=congrArg List.tail hi
   simpa using this
  have hsl:(s.take (i+1)).drop i=[c]:=by
   rw [List.drop_take,hi]
   simp
  have hgl:=gx_len gs i
  have hci39:∀ q,(c==39)=q→FactOk PG (nuL (blNu s gv gs t i c (gx gs i) C)) (bI .eql (.atom 5) 39 q):=fun q hq=>by
   exact fU8 (a:=(c.toNat:Nat)) (b:=(39:Nat)) rfl rfl (u8eq (c:=c) (n:=39) (by decide) hq) rfl (by decide) rfl
  have hci32:∀ q,(c==32)=q→FactOk PG (nuL (blNu s gv gs t i c (gx gs i) C)) (bI .eql (.atom 5) 32 q):=fun q hq=>by
   exact fU8 (a:=(c.toNat:Nat)) (b:=(32:Nat)) rfl rfl (u8eq (c:=c) (n:=32) (by decide) hq) rfl (by decide) rfl
  have e4:IntKind.i64.wrap ((i:Int)+1)=((i+1:Nat):Int):=by rw [w6_id (by omega) (by omega)];omega
  have hA:FactsOk PG (nuL (blNu s gv gs t i c (gx gs i) C)) (blA (c==39) (c==32)) :=
   ⟨fStrLen rfl rfl rfl,fCmp (a:=i) (b:=s.length) (c:=true) rfl rfl rfl (by simp only [intP];rw [decide_eq_true (by omega)]) (by decide) rfl,fStrIx (n:=i) (c:=c) rfl rfl hci rfl rfl,hci39 _ rfl,fInt (a:=i) (b:=1) rfl rfl rfl (by simp only [intP];rw [e4]) (by decide) rfl,
    fSlice (i:=i) (j:=i+1) rfl rfl rfl ⟨by omega,by omega⟩ hsl rfl rfl,fStrAdd (l:=t) (m:=[c]) rfl rfl (by simp;omega) rfl rfl,hci32 _ rfl,fLen hgv rfl rfl,trivial⟩
  obtain ⟨k,hk⟩:∃ k,k=if i < gs.length then (wthn (gs.getD i 0) 4).toNat+1 else 0:=⟨_,rfl⟩
  obtain ⟨w1,w2⟩:=wthn_range (gs.getD i 0) 4 (by decide) (by decide)
  have hk5:k < 5:=by rw [hk];split<;>omega
  have hG:FactsOk PG (nuL (blNu s gv gs t i c (gx gs i) C)) (blG k):=by
   by_cases hx:i < gs.length
   ·rw [hk,if_pos hx]
    have hw:=within3_ev (gs.getD i 0) 4 (by decide)
    have ew:wthn (gs.getD i 0) 4=((wthn (gs.getD i 0) 4).toNat:Nat):=by omega
    rw [ew] at hw
    have eg:gx gs i=gapB (wthn (gs.getD i 0) 4).toNat:=if_pos hx
    exact ⟨fCmp (a:=i) (b:=gs.length) (c:=true) rfl rfl rfl (by simp only [intP];rw [decide_eq_true (by omega)]) (by decide) rfl,fIx hgv hx rfl rfl rfl,fprim hw rfl rfl rfl,fStrAdd (l:=t++[c]) (m:=gapB (wthn (gs.getD i 0) 4).toNat) rfl rfl (by have:=gapB_len (wthn (gs.getD i 0) 4).toNat;rw [List.length_append];simp only [List.length_cons,List.length_nil];omega) (by rw [← eg];rfl) rfl,trivial⟩
   ·rw [hk,if_neg hx]
    exact ⟨fCmp (a:=i) (b:=gs.length) (c:=false) rfl rfl rfl (by simp only [intP];rw [decide_eq_false (by omega)]) (by decide) rfl,trivial⟩
  have hkk:=List.all_eq_true.1 (bl_all (bl_all (bl_all bl_r b) (c==39)) (c==32)) k (by rw [List.mem_range];exact hk5)
  have hsub:blS.map (subRes (nuL (blNu s gv gs t i c (gx gs i) C)))=[.box C]:=blS_sub rfl hC
  have hN:subD (nuL (blNu s gv gs t i c (gx gs i) C)) (blN b (c==39) (c==32) k) = .str (t++(c::(match c==32 && !(b != (c==39)) with|true=>gx gs i|false=>[]))):=by
   unfold blN
   cases (c==32 && !(b != (c==39))) with
   | false=>rfl
   | true =>
    by_cases hx:i < gs.length
    ·rw [hk,if_pos hx]
     show PV.str (t++[c]++gx gs i)=_
     simp
    ·have eg:gx gs i=[]:=if_neg hx
     rw [hk,if_neg hx,eg]
     rfl
  have hNo:oneB (nuL (blNu s gv gs t i c (gx gs i) C)) (blN b (c==39) (c==32) k)=true:=by
   unfold blN
   cases (c==32 && !(b != (c==39))) with
   | false=>rfl
   | true=>cases k<;>rfl
  have h:=ih (i+1) (b != (c==39)) (t++(c::(match c==32 && !(b != (c==39)) with|true=>gx gs i|false=>[]))) hr (by
   rw [List.length_append,List.length_cons]
   have:(match c==32 && !(b != (c==39)) with|true=>gx gs i|false=>[]).length≤4:=by
    split
    ·exact hgl
    ·simp
   omega)
  refine RunsR.round ?_ (by
   have e:t++exB gs i b (c::r)=t++(c::(match c==32 && !(b != (c==39)) with|true=>gx gs i|false=>[]))++exB gs (i+1) (b != (c==39)) r:=by
    simp only [exB,List.append_assoc]
   rw [e]
   exact h)
  have:=RunsP.chk prog_ok (blNu_ok (s:=s) (gs:=gs) gg (t:=t) (i:=i) (c:=c) (g1:=gx gs i) hCg) (T:=blT (.atom 3) (.atom 2) b) (s:=blS) (T':=blT (.atom 6) (blN b (c==39) (c==32) k) (b != (c==39))) (s':=blS) bl_lone hkk (FactsOk.append hA hG)
   (by
    show ((gv.pure&&(true&&(true&&(true&&(true&&(true&&true))))))&&(gv.one&&(true&&(true&&(true&&(true&&(true&&true)))))))=true
    rw [hgp.2,gg.2];rfl)
   (by rw [hsub,blS_fn,hpR];rfl)
   (by
    rw [hsub,hpR]
    show ((gv.pure&&(true&&(true&&((subD _ (blN b (c==39) (c==32) k)).pure&&(true&&(true&&true))))))&&true)=true
    rw [hN,hgp.2];rfl)
  rw [hsub] at this
  have eT:subT (nuL (blNu s gv gs t i c (gx gs i) C)) (blT (.atom 6) (blN b (c==39) (c==32) k) (b != (c==39)))=[(5,gv),(13, .box 0 0),(14, .str s),(15, .str (t++(c::(match c==32 && !(b != (c==39)) with|true=>gx gs i|false=>[])))),(16, .bool (b != (c==39))),(17,nI (i+1:Nat))]:=by
   show [(5,gv),(13,PV.box 0 0),(14,PV.str s),(15,subD _ (blN b (c==39) (c==32) k)),(16,PV.bool (b != (c==39))),(17,nI (i+1:Nat))]=_
   rw [hN]
  rw [eT] at this
  exact this
end Go.Proofs.YtdlkibeljkapeaaGreatDoor.Den
namespace Go.Proofs.YtdlkibeljkapeaaGreatDoor.Den
open Go Go.RowKit
def par:Bool→List UInt8→Bool
 | b,[]=>b
 | b,c::r=>par (b != (c==39)) r
variable (gs:List Int)
theorem ex_app:∀ (u v:List UInt8) (i:Nat) (b:Bool),exB gs i b (u++v)=exB gs i b u++exB gs (i+u.length) (par b u) v
 | [],v,i,b=>by simp [exB,par]
 | c::u,v,i,b=>by
  have ih:=ex_app u v (i+1) (b != (c==39))
  simp only [List.cons_append,exB,par,ih,List.length_cons,List.append_assoc,show i+1+u.length=i+(u.length+1) by omega]
theorem par_app:∀ (u v:List UInt8) (b:Bool),par b (u++v)=par (par b u) v
 | [],_,_=>rfl
 | c::u,v,b=>par_app u v _
theorem ex_walk:∀ (t:List UInt8) (i:Nat) (b b':Bool),walkQ b t=some b'→exB gs i b t=t∧par b t=b'
 | [],i,b,b',h=>by
  simp only [walkQ,Option.some.injEq] at h
  exact ⟨rfl,h⟩
 | c::t,i,b,b',h=>by
  simp only [walkQ] at h
  by_cases h39:c=39
  ·rw [if_pos h39] at h
   have e:(b != (c==39)) = !b:=by subst h39;cases b<;>rfl
   have ih:=ex_walk t (i+1) (!b) b' h
   simp only [exB,par,e,ih.1,ih.2]
   have e2:(c==32)=false:=by subst h39;rfl
   rw [e2]
   exact ⟨rfl,trivial⟩
  ·rw [if_neg h39] at h
   have e:(b != (c==39))=b:=by rw [beq_eq_false_iff_ne.2 h39];cases b<;>rfl
   by_cases h32:c=32∧b=false
   ·rw [if_pos h32] at h;cases h
   ·rw [if_neg h32] at h
    have ih:=ex_walk t (i+1) b b' h
    simp only [exB,par,e,ih.1,ih.2]
    have e2:(c==32 && !b)=false:=by
     rw [Bool.eq_false_iff]
     intro hh
     simp only [Bool.and_eq_true,beq_iff_eq,Bool.not_eq_true'] at hh
     exact h32 hh
    rw [e2]
    exact ⟨rfl,trivial⟩
theorem ex_nobl {u:List UInt8} (h:nobl u) (v:List UInt8) (i:Nat):exB gs i false (u++v)=u++exB gs (i+u.length) false v∧par false (u++v)=par false v:=by
 have:=ex_walk gs u i false false h
 rw [ex_app,par_app,this.1,this.2]
 exact ⟨rfl,rfl⟩
theorem ex_self {u:List UInt8} (h:nobl u) (i:Nat):exB gs i false u=u∧par false u=false:=ex_walk gs u i false false h
theorem ex_sp (v:List UInt8) (i:Nat):exB gs i false ([32]++v)=(32::gx gs i)++exB gs (i+1) false v∧par false ([32]++v)=par false v:=⟨rfl,rfl⟩
theorem gap_gx (i:Nat):Gap (32::gx gs i):=⟨_,rfl,gx_blank gs i⟩
theorem nobl_word {a:List UInt8} (h:wdB a=true):nobl a:=by
 refine walkQ_plain false a fun c hc=>?_
 have hi:isInner c=true:=by
  cases a with
  | nil=>cases hc
  | cons d r =>
   simp only [wdB,Bool.and_eq_true] at h
   rcases List.mem_cons.1 hc with rfl|hc
   ·unfold isInner;rw [h.1];rfl
   ·exact List.all_eq_true.1 h.2.1 c hc
 exact ⟨fun e=>by rw [e] at hi;exact absurd hi (by decide),fun e=>by rw [e] at hi;exact absurd hi (by decide)⟩
theorem nobl_mark:∀ k,k < 11→nobl (mkW k):=by
 have h:∀ k,k < 11→walkQ false (mkW k)=some false:=by decide
 exact h
def ExOk (P:List UInt8→Prop) (t:List UInt8):Prop:=∀ i,P (exB gs i false t)∧par false t=false
variable {gs}
theorem ex_brk {b:Bool} {P:List UInt8→Prop} {t:List UInt8} (h:ExOk gs P t):ExOk gs (brkP b P) (brk b t):=by
 cases b with
 | true=>exact h
 | false =>
  intro i
  have n1:nobl [40]:=rfl
  have n2:nobl [41]:=rfl
  show brkP false P (exB gs i false ([40]++t++[41]))∧par false ([40]++t++[41])=false
  have h1:=ex_nobl gs n1 (t++[41]) i
  have h2:=h (i+([40]:List UInt8).length)
  have h3:=ex_app gs t [41] (i+([40]:List UInt8).length) false
  have h4:=ex_self gs n2 (i+([40]:List UInt8).length+t.length)
  rw [List.append_assoc,h1.1,h1.2,h3,par_app,h2.2,h4.1]
  exact ⟨⟨_,h2.1,by simp⟩,h4.2⟩
theorem ex_xp:∀ (e:Xp),e.wf→ExOk gs e.wr e.txt
 | .lit v t,hw,i=>ex_self gs hw.2 i
 | .col w,hw,i=>by
  obtain ⟨c,r,rfl,h1,h2,h3,_⟩:=hw
  exact ex_self gs (nobl_word (by show (isSmall c&&(r.all isInner&&Nat.ble r.length 11))=true;rw [h1,h2,show Nat.ble r.length 11=true by rw [Nat.ble_eq];exact h3];rfl)) i
 | .neg a,hw,i=>by
  have n1:nobl [45,40]:=rfl
  have n2:nobl [41]:=rfl
  have h1:=ex_nobl gs n1 (a.txt++[41]) i
  have h2:=ex_xp a hw (i+([45,40]:List UInt8).length)
  have h3:=ex_app gs a.txt [41] (i+([45,40]:List UInt8).length) false
  have h4:=ex_self gs n2 (i+([45,40]:List UInt8).length+a.txt.length)
  show Xp.wr (.neg a) (exB gs i false ([45,40]++a.txt++[41]))∧par false ([45,40]++a.txt++[41])=false
  rw [List.append_assoc,h1.1,h1.2,h3,par_app,h2.2,h4.1]
  exact ⟨⟨_,h2.1,by simp⟩,h4.2⟩
 | .not a,hw,i=>by
  have n1:nobl [110,111,116]:=rfl
  have hb:=ex_brk (b:=a.leaf) (ex_xp a hw)
  have h1:=ex_nobl gs n1 ([32]++brk a.leaf a.txt) i
  have h2:=ex_sp gs (brk a.leaf a.txt) (i+([110,111,116]:List UInt8).length)
  have h3:=hb (i+([110,111,116]:List UInt8).length+1)
  show Xp.wr (.not a) (exB gs i false ([110,111,116]++([32]++brk a.leaf a.txt)))∧par false ([110,111,116]++([32]++brk a.leaf a.txt))=false
  rw [h1.1,h1.2,h2.1,h2.2]
  exact ⟨⟨_,_,gap_gx gs (i+([110,111,116]:List UInt8).length),h3.1,by simp⟩,h3.2⟩
 | .isn a,hw,i=>by
  have hb:=ex_brk (b:=a.leaf) (ex_xp a hw) i
  have n1:nobl [105,115]:=rfl
  have n2:nobl [110,117,108,108]:=rfl
  have h1:=ex_app gs (brk a.leaf a.txt) ([32]++([105,115]++([32]++[110,117,108,108]))) i false
  have h2:=ex_sp gs ([105,115]++([32]++[110,117,108,108])) (i+(brk a.leaf a.txt).length)
  have h3:=ex_nobl gs n1 ([32]++[110,117,108,108]) (i+(brk a.leaf a.txt).length+1)
  have h4:=ex_sp gs [110,117,108,108] (i+(brk a.leaf a.txt).length+1+([105,115]:List UInt8).length)
  have h5:=ex_self gs n2 (i+(brk a.leaf a.txt).length+1+([105,115]:List UInt8).length+1)
  show Xp.wr (.isn a) (exB gs i false (brk a.leaf a.txt++([32]++([105,115]++([32]++[110,117,108,108])))))∧par false (brk a.leaf a.txt++([32]++([105,115]++([32]++[110,117,108,108]))))=false
  rw [h1,par_app,hb.2,h2.1,h2.2,h3.1,h3.2,h4.1,h4.2,h5.1]
  exact ⟨⟨_,_,_,gap_gx gs (i+(brk a.leaf a.txt).length),gap_gx gs (i+(brk a.leaf a.txt).length+1+([105,115]:List UInt8).length),hb.1,by simp⟩,h5.2⟩
 | .op k a b,hw,i=>by
  obtain ⟨hk,hwa,hwb⟩:=hw
  have ha:=ex_brk (b:=a.leaf) (ex_xp a hwa) i
  have hb:=ex_brk (b:=b.leaf) (ex_xp b hwb)
  have n1:nobl (opW k):=by
   have h:∀ k,k < 9→walkQ false (opW k)=some false:=by decide +kernel
   exact h k hk
  have h1:=ex_app gs (brk a.leaf a.txt) ([32]++(opW k++([32]++brk b.leaf b.txt))) i false
  have h2:=ex_sp gs (opW k++([32]++brk b.leaf b.txt)) (i+(brk a.leaf a.txt).length)
  have h3:=ex_nobl gs n1 ([32]++brk b.leaf b.txt) (i+(brk a.leaf a.txt).length+1)
  have h4:=ex_sp gs (brk b.leaf b.txt) (i+(brk a.leaf a.txt).length+1+(opW k).length)
  have h5:=hb (i+(brk a.leaf a.txt).length+1+(opW k).length+1)
  have e:(Xp.op k a b).txt=brk a.leaf a.txt++([32]++(opW k++([32]++brk b.leaf b.txt))):=by
   show brk a.leaf a.txt++[32]++opW k++[32]++brk b.leaf b.txt=_
   simp
  rw [e,h1,par_app,ha.2,h2.1,h2.2,h3.1,h3.2,h4.1,h4.2]
  exact ⟨⟨_,_,_,_,gap_gx gs (i+(brk a.leaf a.txt).length),gap_gx gs (i+(brk a.leaf a.txt).length+1+(opW k).length),ha.1,h5.1,by simp⟩,h5.2⟩
theorem ex_it {it:It} (h:it.wf):ExOk gs it.wr it.txt:=by
 cases it with
 | w a=>exact fun i=>ex_self gs (nobl_word h) i
 | m k=>exact fun i=>ex_self gs (nobl_mark k h.1) i
 | x e=>exact ex_xp e h.1
 | v v t=>exact fun i=>ex_self gs h.2 i
theorem ex_pcs:∀ (ps:List Pc),(∀ p∈ps,p.2.wf)→ExOk gs (Wr ps) (pTxt ps)
 | [],_,i=>⟨rfl,rfl⟩
 | p::ps,h,i=>by
  obtain ⟨b,it⟩:=p
  have hit:=ex_it (gs:=gs) (h (b,it) (by simp))
  have hps:=ex_pcs ps (fun q hq=>h q (by simp [hq]))
  cases b with
  | true =>
   have h1:=ex_sp gs (it.txt++pTxt ps) i
   have h2:=ex_app gs it.txt (pTxt ps) (i+1) false
   have h3:=hit (i+1)
   have h4:=hps (i+1+it.txt.length)
   show Wr ((true,it)::ps) (exB gs i false ([32]++(it.txt++pTxt ps)))∧par false ([32]++(it.txt++pTxt ps))=false
   rw [h1.1,h1.2,h2,par_app,h3.2]
   exact ⟨⟨_,_,_,gap_gx gs i,h3.1,h4.1,rfl⟩,h4.2⟩
  | false =>
   have h2:=ex_app gs it.txt (pTxt ps) i false
   have h3:=hit i
   have h4:=hps (i+it.txt.length)
   show Wr ((false,it)::ps) (exB gs i false (it.txt++pTxt ps))∧par false (it.txt++pTxt ps)=false
   rw [h2,par_app,h3.2]
   exact ⟨⟨[],_,_,rfl,h3.1,h4.1,rfl⟩,h4.2⟩
theorem ex_wr {x:Sx} (hx:x.wf):Wr x.pcs (exB gs 0 false x.txt):=(ex_pcs x.pcs (sx_pwf hx) 0).1
end Go.Proofs.YtdlkibeljkapeaaGreatDoor.Den
namespace Go.Proofs.YtdlkibeljkapeaaGreatDoor.Den
open Go Go.RowKit
def bmNu (s:List UInt8) (gv:PV) (t:List UInt8) (kd n:Int) (nsv wv cv:PV) (C:List PV):List PV :=
 ([.str s,gv,nI 0,nI 0,nI 0,nI 0,nI 0,nI 0,nI 0,nI 0,nI 0,nI 0, .str t,nI t.length, .str (t++[32,10]),nI 0,nI 0,nI 0,nI 0,nI 0,nI 0,nI 0,nI 0,nI 0,nI 0,nI 0,nI 0,nI 0,nI 0,nI 0,nI kd,nI n,nsv,wv,cv]++List.replicate 65 (nI 0))++C
theorem bmNu_ok {s:List UInt8} {gv:PV} {t:List UInt8} {kd n:Int} {nsv wv cv:PV} {C:List PV} (h1:goodA gv) (h2:goodA nsv) (h3:goodA wv) (h4:goodA cv) (hC:(C.all fun p=>p.clean&&p.pure)=true):NuOk (nuL (bmNu s gv t kd n nsv wv cv C)):=by
 refine nuL_okB ?_
 unfold bmNu
 rw [List.all_append,List.all_append,hC]
 simp only [List.all_cons,h1.1,h2.1,h3.1,h4.1]
 rfl
theorem bm_args {nu:Nat→PV} {kd n:Int} {gv nsv wv cv:PV} (h1:goodA gv) (h2:goodA nsv) (h3:goodA wv) (h4:goodA cv) (e0:nu 30=nI kd) (e1:nu 31=nI n) (e2:nu 32=nsv) (e3:nu 33=wv) (e4:nu 34=cv) (e5:nu 1=gv) :
  ([PV.atom 30, .atom 31, .atom 32, .atom 33, .atom 34, .atom 1].all fun p=>argB nu p&&p.shut)=true:=by
 have a1:=h1.1
 have a2:=h2.1
 have a3:=h3.1
 have a4:=h4.1
 simp only [Bool.and_eq_true] at a1 a2 a3 a4
 simp only [List.all_cons,List.all_nil,argB,subD,oneB,e0,e1,e2,e3,e4,e5,a1.2,a2.2,a3.2,a4.2,h1.2,h2.2,h3.2,h4.2]
 rfl
theorem exB_len (gs:List Int):∀ (t:List UInt8) (i:Nat) (b:Bool),(exB gs i b t).length≤5*t.length
 | [],_,_=>by simp [exB]
 | c::t,i,b=>by
  have ih:=exB_len gs t (i+1) (b != (c==39))
  have hg:=gx_len gs i
  simp only [exB,List.length_append,List.length_cons]
  split
  ·omega
  ·simp only [List.length_nil]
   omega
set_option maxRecDepth 40000 in
set_option maxHeartbeats 2000000 in
theorem blanks_ev {nsv gv:PV} {ns gs:List Int} (hns:nsv = .slice 1 (ns.map (.int .i64))∨(nsv = .nilslice∧ns=[])) {wn:Nat} {wl:List RawT} (hwn:nlOk wn wl) (hwo:RawT.oks wl) {cn:Nat} {cl:List RawT} (hcn:nlOk cn cl) (hco:RawT.oks cl) (hgv:gv = .slice 1 (gs.map (.int .i64))∨(gv = .nilslice∧gs=[])) (kd n:Int) :
  Ev PG f_l3_SqlBlanks [nI kd,nI n,nsv,rawsP wn wl,rawsP cn cl,gv] (.bool true):=by
 have g1:goodA gv:=ints_good hgv
 have g2:goodA nsv:=ints_good hns
 have g3:=raws_goodA wn wl
 have g4:=raws_goodA cn cl
 have hfw:=few_ev wn wl hwn hwo
 have hfc:=few_ev cn cl hcn hco
 have three:blK (blL false true)=true∧blK (blL true false)=true∧blK (blL false false)=true:=by
  have:=bl_k0
  rw [Bool.and_eq_true,Bool.and_eq_true] at this
  exact this
 have no:∀ a b,fewB wl=a→fewB cl=b→blK (blL a b)=true→Ev PG f_l3_SqlBlanks [nI kd,nI n,nsv,rawsP wn wl,rawsP cn cl,gv] (.bool true):=fun a b ha hb hk=>by
  rw [ha] at hfw
  rw [hb] at hfc
  exact Ev.facts (nu:=nuL (bmNu [] gv [] kd n nsv (rawsP wn wl) (rawsP cn cl) [])) (args:=[.atom 30, .atom 31, .atom 32, .atom 33, .atom 34, .atom 1]) (r:=.bool true) prog_ok (bmNu_ok g1 g2 g3 g4 rfl) (okR_eq hk) ⟨fprim known_ev rfl rfl rfl,fprim hfw rfl rfl rfl,fprim hfc rfl rfl rfl,trivial⟩ (bm_args g1 g2 g3 g4 rfl rfl rfl rfl rfl rfl) rfl
 cases hf:fewB wl with
 | false =>
  cases hg:fewB cl with
  | false=>exact no false false hf hg three.2.2
  | true=>exact no false true hf hg three.1
 | true =>
  cases hg:fewB cl with
  | false=>exact no true false hf hg three.2.1
  | true =>
   rw [hf] at hfw
   rw [hg] at hfc
   obtain ⟨x,hx,hst⟩:=stmt_ev kd n hns (s:=[97,32,98]) (by decide) hwn hwo hf hcn hco hg
   have htx:=stext_ev hx
   have htl:=sx_txt_len hx
   obtain ⟨T,hT⟩:∃ T,T=[10,32]++exB gs 0 false x.txt:=⟨_,rfl⟩
   have hexl:=exB_len gs x.txt 0 false
   have hTl:T.length≤400000:=by rw [hT];simp;omega
   have hloop:=bl_loop (gs:=gs) hgv (s:=x.txt) (by omega) (sx_len x) (sx_good x) x.txt 0 false [10,32] rfl (by simp only [List.length_cons,List.length_nil];omega)
   rw [← hT] at hloop
   have hnu:=bmNu_ok (s:=x.txt) (t:=T) (kd:=kd) (n:=n) g1 g2 g3 g4 (sx_good x)
   have hS:subD (nuL (bmNu x.txt gv T kd n nsv (rawsP wn wl) (rawsP cn cl) x.cells)) (s31 100)=x.pv:=by
    rw [sx_cells]
    exact s31_sub (sx_len x) fun i hi=>nuL_at rfl (by rw [sx_len];exact hi) (by rw [sx_len];decide)
   have hsub:blS.map (subRes (nuL (bmNu x.txt gv T kd n nsv (rawsP wn wl) (rawsP cn cl) x.cells)))=[.box x.cells]:=blS_sub rfl (sx_len x)
   have hA:FactsOk PG (nuL (bmNu x.txt gv T kd n nsv (rawsP wn wl) (rawsP cn cl) x.cells)) (blL true true):=⟨fprim known_ev rfl rfl rfl,fprim hfw rfl rfl rfl,fprim hfc rfl rfl rfl,trivial⟩
   have hB:∀ q,decide ((T.length:Int) > 3990)=q→FactsOk PG (nuL (bmNu x.txt gv T kd n nsv (rawsP wn wl) (rawsP cn cl) x.cells)) (blM q):=fun q hq=>by
    refine ⟨fprim hst rfl hS rfl,fprim htx (by show [subD _ (s31 100)]=_;rw [hS]) rfl rfl,?_,fStrLen rfl rfl rfl,fCmp (a:=T.length) (b:=3990) (c:=q) rfl rfl rfl (by simp only [intP];rw [hq]) (by decide) rfl,trivial⟩
    refine fLoopOk bl_lone (Nat.le_refl _) ?_ rfl
    rw [hsub]
    exact hloop
   have hargs:=bm_args (nu:=nuL (bmNu x.txt gv T kd n nsv (rawsP wn wl) (rawsP cn cl) x.cells)) (kd:=kd) (n:=n) g1 g2 g3 g4 rfl rfl rfl rfl rfl rfl
   by_cases h39:(T.length:Int) > 3990
   ·exact Ev.facts (args:=[.atom 30, .atom 31, .atom 32, .atom 33, .atom 34, .atom 1]) (r:=.bool true) prog_ok hnu (okR_eq bl_k1) (FactsOk.append hA (hB true (decide_eq_true h39))) hargs rfl
   ·have hpa:=parse_ev hx (t:=exB gs 0 false x.txt) (g0:=[10,32]) (g1:=[32,10]) (s:=T++[32,10]) (ex_wr hx) rfl rfl (by rw [hT];simp) (by rw [List.length_append];simp only [List.length_cons,List.length_nil];omega)
    exact Ev.facts (args:=[.atom 30, .atom 31, .atom 32, .atom 33, .atom 34, .atom 1]) (r:=.bool true) prog_ok hnu (okR_eq bl_k2) (FactsOk.append hA (FactsOk.append (hB false (decide_eq_false h39))
     ⟨fStrAdd (l:=T) (m:=[32,10]) rfl rfl (by simp only [List.length_cons,List.length_nil];omega) rfl rfl,fprim hpa rfl (by show PV.tup [subD _ (s31 100),nI 0,nI 0]=_;rw [hS]) rfl,fprim (same_ev hx) (by show [subD _ (s31 100),subD _ (s31 100)]=_;rw [hS]) rfl rfl,trivial⟩)) hargs rfl
end Go.Proofs.YtdlkibeljkapeaaGreatDoor.Den
