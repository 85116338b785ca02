-- Written by drive.py and pack.py (programs of this proof's own) through the kit's printer; not trusted: Lean checks it.
import Derived.Test.YtdlkibeljkapeaaGreatDoorCSqlBack11
import Derived.RangeFuncNested
import Derived.RangeFuncBound
import Derived.RangeFuncCalls
import Derived.RangeFuncLeaves
import Derived.Shelf.Abstract
import Derived.Shelf.RegionOpen
import Derived.WalkKit
import Derived.OwnWalkIn
import Derived.TacticsInMore
import Derived.LoopNIn
import Derived.LoopIn
namespace Go.Proofs.YtdlkibeljkapeaaGreatDoor.Den
open Go Go.RowKit
def Sm (k:Nat):PV:=match k with|0=>.nilslice|_=>.slice 3 ((List.range k).map fun i=>.agg [.atom (10+3*i), .atom (11+3*i), .atom (12+3*i)])
def Sv (u:Nat):PV:=match u with|0=>.nilslice|_=>.slice 1 ((List.range u).map fun i=>.atom (30+i))
def Sr (l:Nat):PV:=match l with|0=>.nilslice|_=>.slice 2 ((List.range l).map fun i=>.agg [.atom (40+2*i), .atom (41+2*i)])
def Vp (k u l:Nat):PV:=.agg ([.atom 0,Sm k, .atom 2,Sv u]++(G7 60++[Sr l]))
def tbF (k u l:Nat):List Ao:=[.op (.bin .neq Ar) [.atom 0, .atom 0] (.bool false),oI .neq (.atom 2) (.atom 2) (.bool false), .prim Fj [eA 60,eA 60] (.bool true)] ++
 ((List.range k).map (fun i=>.op (.bin .neq Lh) [.agg [.atom (10+3*i), .atom (11+3*i), .atom (12+3*i)], .agg [.atom (10+3*i), .atom (11+3*i), .atom (12+3*i)]] (.bool false)) ++
 ((List.range u).map (fun i=>oI .neq (.atom (30+i)) (.atom (30+i)) (.bool false))++(List.range l).map (fun i=>.op (.bin .neq Qk) [.agg [.atom (40+2*i), .atom (41+2*i)], .agg [.atom (40+2*i), .atom (41+2*i)]] (.bool false))))
theorem Ayj:((List.range 5).all fun k=>(List.range 3).all fun u=>(List.range 3).all fun l=>A0 (.bool true) (Am PG (Aj An (tbF k u l)) 20 Qj [Vp k u l,Vp k u l] []))=true:=by kernel_rfl
def rwF (n:Nat):List Ao:=(List.range n).map fun i=>.op (.bin .neq M8) [M3 (4*i),M3 (4*i)] (.bool false)
def Oa (n:Nat):PV:=match n with|0=>.nilslice|_=>.slice 4 ((List.range n).map fun i=>M3 (4*i))
theorem A0e:((List.range 6).all fun n=>A0 (.bool true) (Am PG (Aj An (rwF n)) 20 Uc [Oa n,Oa n] []))=true:=by kernel_rfl
def smF:List Ao:=[oI .eql (.atom 0) (.atom 0) (.bool true), .prim Qj [.agg ((List.range 12).map fun i=>.atom (1+i)), .agg ((List.range 12).map fun i=>.atom (1+i))] (.bool true),
 .op (.bin .eql Ar) [.atom 13, .atom 13] (.bool true), .op (.bin .eql Ar) [.atom 14, .atom 14] (.bool true), .op (.bin .eql Ar) [.atom 15, .atom 15] (.bool true), .prim Uc [.atom 16, .atom 16] (.bool true),
 .prim Fj [eA 17,eA 17] (.bool true), .prim Fj [eA 24,eA 24] (.bool true)]
theorem Azj:A0 (.bool true) (Am PG (Aj An smF) 20 Ub [Eu 0,Eu 0] [])=true:=by kernel_rfl
open Go Go.RowKit
def Al3 (b0 b1 b2:Bool):Option PV:=match (match b0 with|true=>(match b1 with|true=>(match b2 with|true=>some true|false=>some false)|false=>some false)|false=>some false:Option Bool) with|some b=>some (PV.bool !b)|none=>none
def Alr (b0 b1:Bool):Option PV:=match (match b0 with|true=>(match b1 with|true=>some true|false=>some false)|false=>some false:Option Bool) with|some b=>some (PV.bool !b)|none=>none
theorem Ax3 (s s':List UInt8) (t t':Int) (n n':Bool):F5 PG .neq Lh (.agg [.str s,nI t, .bool n]) (.agg [.str s',nI t', .bool n'])=Al3 (s==s') (t==t') (n==n'):=by kernel_rfl
theorem Axt (c c':Int) (s s':List UInt8):F5 PG .neq Qk (.agg [nI c, .str s]) (.agg [nI c', .str s'])=Alr (c==c') (s==s'):=by kernel_rfl
theorem Aq0 (s:List UInt8) (t:Int) (n:Bool):F5 PG .neq Lh (.agg [.str s,nI t, .bool n]) (.agg [.str s,nI t, .bool n])=some (.bool false):=by
 rw [Ax3];simp [Al3]
theorem Arb (c:Int) (s:List UInt8):F5 PG .neq Qk (.agg [nI c, .str s]) (.agg [nI c, .str s])=some (.bool false):=by
 rw [Axt];simp [Alr]
def Adc (k:Nat) (ty:Nat→Int) (nn:Nat→Bool):PV:=match k with|0=>.nilslice|_=>.slice 3 ((List.range k).map (E8 ty nn))
def usV (u:Nat) (uq:Nat→Nat):PV:=match u with|0=>.nilslice|_=>.slice 1 ((List.range u).map fun i=>nI (uq i))
def ksV (l:Nat) (lc:Nat→Nat) (ln:Nat→List UInt8):PV:=match l with|0=>.nilslice|_=>.slice 2 ((List.range l).map fun i=>.agg [nI (lc i), .str (ln i)])
def Sj (nm:List UInt8) (k:Nat) (ty:Nat→Int) (nn:Nat→Bool) (key:Int) (u:Nat) (uq:Nat→Nat) (E:E7) (l:Nat) (lc:Nat→Nat) (ln:Nat→List UInt8):List PV:=[.str nm,Adc k ty nn,nI key,usV u uq]++(E.L++[ksV l lc ln])
def P7 (nm:List UInt8) (ty:Nat→Int) (nn:Nat→Bool) (key:Int) (uq:Nat→Nat) (E:E7) (lc:Nat→Nat) (ln:Nat→List UInt8):List PV :=
 [.str nm,nI 0,nI key,nI 0,nI 0,nI 0,nI 0,nI 0,nI 0,nI 0]++([.str (A5 0),nI (ty 0), .bool (nn 0), .str (A5 1),nI (ty 1), .bool (nn 1), .str (A5 2),nI (ty 2), .bool (nn 2), .str (A5 3),nI (ty 3), .bool (nn 3)]++(List.replicate 8 (nI 0)++([nI (uq 0),nI (uq 1)]++(List.replicate 8 (nI 0)++([nI (lc 0), .str (ln 0),nI (lc 1), .str (ln 1)]++(List.replicate 16 (nI 0)++E.L))))))
set_option maxRecDepth 40000 in
theorem Ahh {nm:List UInt8} {k:Nat} {ty:Nat→Int} {nn:Nat→Bool} {key:Int} {u:Nat} {uq:Nat→Nat} {E:E7} {l:Nat} {lc:Nat→Nat} {ln:Nat→List UInt8} (hk:k < 5) (hu:u < 3) (hl:l < 3) (hE:E.ok=true) (hx:Ev PG Fj [E.pv,E.pv] (.bool true)) (hp:PV.pureL (Sj nm k ty nn key u uq E l lc ln)=true) :
  Ev PG Qj [.agg (Sj nm k ty nn key u uq E l lc ln), .agg (Sj nm k ty nn key u uq E l lc ln)] (.bool true):=by
 have hnu:Bc (Ab (P7 nm ty nn key uq E lc ln)):=Ap (by
  unfold P7
  simp only [List.all_append,show (E.L.all fun p=>p.clean&&p.pure)=true from hE]
  rfl)
 have h1:subD (Ab (P7 nm ty nn key uq E lc ln)) (Sm k)=Adc k ty nn:=by
  have:k=0∨k=1∨k=2∨k=3∨k=4:=by omega
  rcases this with rfl|rfl|rfl|rfl|rfl<;>rfl
 have h2:subD (Ab (P7 nm ty nn key uq E lc ln)) (Sv u)=usV u uq:=by
  have:u=0∨u=1∨u=2:=by omega
  rcases this with rfl|rfl|rfl<;>rfl
 have h3:subD (Ab (P7 nm ty nn key uq E lc ln)) (Sr l)=ksV l lc ln:=by
  have:l=0∨l=1∨l=2:=by omega
  rcases this with rfl|rfl|rfl<;>rfl
 have hT:subD (Ab (P7 nm ty nn key uq E lc ln)) (Vp k u l) = .agg (Sj nm k ty nn key u uq E l lc ln):=by
  show PV.agg (Cj _ (([.atom 0,Sm k, .atom 2,Sv u]:List PV)++(G7 60++[Sr l])))=_
  rw [Ot,Ot]
  show PV.agg ([_,subD _ (Sm k),_,subD _ (Sv u)]++(_++[subD _ (Sr l)]))=_
  rw [h1,h2,h3];rfl
 have hf:Ah PG (Ab (P7 nm ty nn key uq E lc ln)) (tbF k u l):=by
  unfold tbF
  refine Ah.append ⟨Hr (l:=nm) (m:=nm) rfl rfl (show L8 .neq nm nm=some (.bool (nm != nm)) from rfl) (by simp [subD]) rfl,Av (a:=key) (b:=key) (c:=false) rfl rfl rfl (by rw [N4];simp) (by decide) rfl,Ai hx rfl rfl rfl,trivial⟩
   (Ah.append (Ah.of ?_) (Ah.append (Ah.of ?_) (Ah.of ?_)))
  ·intro f hf
   obtain ⟨i,hi,rfl⟩:=List.mem_map.1 hf
   rw [List.mem_range] at hi
   have:i=0∨i=1∨i=2∨i=3:=by omega
   rcases this with rfl|rfl|rfl|rfl<;>exact ⟨Aq0 _ _ _,rfl⟩
  ·intro f hf
   obtain ⟨i,hi,rfl⟩:=List.mem_map.1 hf
   rw [List.mem_range] at hi
   have:i=0∨i=1:=by omega
   rcases this with rfl|rfl
   ·exact Av (a:=uq 0) (b:=uq 0) (c:=false) rfl rfl rfl (by rw [N4];simp) (by decide) rfl
   ·exact Av (a:=uq 1) (b:=uq 1) (c:=false) rfl rfl rfl (by rw [N4];simp) (by decide) rfl
  ·intro f hf
   obtain ⟨i,hi,rfl⟩:=List.mem_map.1 hf
   rw [List.mem_range] at hi
   have:i=0∨i=1:=by omega
   rcases this with rfl|rfl<;>exact ⟨Arb _ _,rfl⟩
 have:=Ev.facts (args:=[Vp k u l,Vp k u l]) (r:=.bool true) Af hnu (As (List.all_eq_true.1 (List.all_eq_true.1 (List.all_eq_true.1 Ayj k (by rw [List.mem_range];exact hk)) u (by rw [List.mem_range];exact hu)) l (by rw [List.mem_range];exact hl))) hf
  (Nr (by rw [hT];exact hp) (by cases k<;>cases u<;>cases l<;>rfl) (by
   show (PV.clean _&&(_&&_))=true
   have c1:(Sm k).clean=true:=by cases k<;>rfl
   have c2:(Sv u).clean=true:=by cases u<;>rfl
   have c3:(Sr l).clean=true:=by cases l<;>rfl
   show ((PV.atom 0).clean&&((Sm k).clean&&((PV.atom 2).clean&&((Sv u).clean&&(true&&(true&&(true&&(true&&(true&&(true&&(true&&((Sr l).clean&&true))))))))))))=true
   rw [c1,c2,c3];rfl)) rfl
 simp only [List.map_cons,List.map_nil,hT] at this
 exact this
set_option maxRecDepth 40000 in
theorem Ajl {vs:List (V4 × List UInt8)} (h5:vs.length≤5):Ev PG Uc [(match vs.length with|0=>.nilslice|_=>rowP vs),(match vs.length with|0=>.nilslice|_=>rowP vs)] (.bool true):=by
 have hT:subD (Ab (Dj (vs.getD 0 (v0,[])).1++(Dj (vs.getD 1 (v0,[])).1++(Dj (vs.getD 2 (v0,[])).1++(Dj (vs.getD 3 (v0,[])).1++Dj (vs.getD 4 (v0,[])).1))))) (Oa vs.length)=(match vs.length with|0=>.nilslice|_=>rowP vs):=by
  match vs,h5 with
  | [],_=>rfl
  | [_],_=>rfl
  | [_,_],_=>rfl
  | [_,_,_],_=>rfl
  | [_,_,_,_],_=>rfl
  | [_,_,_,_,_],_=>rfl
 have hf:Ah PG (Ab (Dj (vs.getD 0 (v0,[])).1++(Dj (vs.getD 1 (v0,[])).1++(Dj (vs.getD 2 (v0,[])).1++(Dj (vs.getD 3 (v0,[])).1++Dj (vs.getD 4 (v0,[])).1))))) (rwF vs.length):=by
  refine Ah.of fun f hf=>?_
  obtain ⟨i,hi,rfl⟩:=List.mem_map.1 hf
  rw [List.mem_range] at hi
  have:i=0∨i=1∨i=2∨i=3∨i=4:=by omega
  rcases this with rfl|rfl|rfl|rfl|rfl<;>exact ⟨Ahn _,rfl⟩
 have hp:(subD (Ab (Dj (vs.getD 0 (v0,[])).1++(Dj (vs.getD 1 (v0,[])).1++(Dj (vs.getD 2 (v0,[])).1++(Dj (vs.getD 3 (v0,[])).1++Dj (vs.getD 4 (v0,[])).1))))) (Oa vs.length)).pure=true:=by
  rw [hT]
  cases vs.length with
  | zero=>rfl
  | succ n=>exact W8 vs
 have hs:(Oa vs.length).shut=true:=by cases vs.length<;>rfl
 have ho:C9 (Ab (Dj (vs.getD 0 (v0,[])).1++(Dj (vs.getD 1 (v0,[])).1++(Dj (vs.getD 2 (v0,[])).1++(Dj (vs.getD 3 (v0,[])).1++Dj (vs.getD 4 (v0,[])).1))))) (Oa vs.length)=true:=by cases vs.length<;>rfl
 have:=Ev.facts (args:=[Oa vs.length,Oa vs.length]) (r:=.bool true) Af (Ap rfl) (As (List.all_eq_true.1 A0e vs.length (by rw [List.mem_range];omega))) hf (Nr hp ho hs) rfl
 simp only [List.map_cons,List.map_nil,hT] at this
 exact this
theorem Abp {k:Int} {T:List PV} {nm col dst:List UInt8} {row:PV} {e w:E7} (hT:T.length=12) (hTg:(T.all fun p=>p.clean&&p.pure)=true) (hr:(row.clean&&row.pure)=true) (he:e.ok=true) (hw:w.ok=true) (h1:Ev PG Qj [.agg T, .agg T] (.bool true)) (h2:Ev PG Uc [row,row] (.bool true)) (h3:Ev PG Fj [e.pv,e.pv] (.bool true)) (h4:Ev PG Fj [w.pv,w.pv] (.bool true)) :
  Ev PG Ub [Cb k T nm col dst row e w,Cb k T nm col dst row e w] (.bool true):=by
 match T,hT with
 | [a1,a2,a3,a4,a5,a6,a7,a8,a9,a10,a11,a12],_ =>
  have hnu:Bc (Ab ([nI k]++([a1,a2,a3,a4,a5,a6,a7,a8,a9,a10,a11,a12]++([.str nm, .str col, .str dst,row]++(e.L++w.L))))):=Ap (by
   simp only [List.all_append,hTg,show (e.L.all fun p=>p.clean&&p.pure)=true from he,show (w.L.all fun p=>p.clean&&p.pure)=true from hw]
   simp only [List.all_cons,hr]
   rfl)
  have hp:(Cb k [a1,a2,a3,a4,a5,a6,a7,a8,a9,a10,a11,a12] nm col dst row e w).pure=true:=by
   have e1:=E7.pure he
   have e2:=E7.pure hw
   have e3:PV.pureL [a1,a2,a3,a4,a5,a6,a7,a8,a9,a10,a11,a12]=true:=Aih fun p hp=>by
    have:=List.all_eq_true.1 hTg p hp
    rw [Bool.and_eq_true] at this
    exact this.2
   rw [Bool.and_eq_true] at hr
   show PV.pureL (nI k::([a1,a2,a3,a4,a5,a6,a7,a8,a9,a10,a11,a12]++([.str nm, .str col, .str dst,row]++(e.L++w.L))))=true
   have e4:PV.pureL e.L=true:=e1
   have e5:PV.pureL w.L=true:=e2
   rw [PV.pureL,Oq,e3,Oq,Oq,e4,e5]
   simp [PV.pureL,PV.pure,hr.2]
  exact Ev.facts (nu:=Ab ([nI k]++([a1,a2,a3,a4,a5,a6,a7,a8,a9,a10,a11,a12]++([.str nm, .str col, .str dst,row]++(e.L++w.L))))) (args:=[Eu 0,Eu 0]) (r:=.bool true) Af hnu (As Azj)
   ⟨Av (a:=k) (b:=k) (c:=true) rfl rfl rfl (by rw [Hu];simp) (by decide) rfl,Ai h1 rfl rfl rfl,Hr (l:=nm) (m:=nm) rfl rfl (Jb _ _) (by simp [subD]) rfl,Hr (l:=col) (m:=col) rfl rfl (Jb _ _) (by simp [subD]) rfl,Hr (l:=dst) (m:=dst) rfl rfl (Jb _ _) (by simp [subD]) rfl,
    Ai h2 rfl rfl rfl,Ai h3 rfl rfl rfl,Ai h4 rfl rfl rfl,trivial⟩ (Nr hp rfl rfl) rfl
theorem Hh (w:Option Xp):Ev PG Fj [(wX w).pv,(wX w).pv] (.bool true):=by
 cases w with
 | none=>exact Ev.facts (nu:=Ab []) (args:=[E7.zero.pv,E7.zero.pv]) Af (Ap rfl) (As Ash) trivial rfl rfl
 | some e=>exact Ln e
theorem As4 {x:Sx} (hx:x.wf):Ev PG Ub [x.pv,x.pv] (.bool true):=by
 have hz:Ev PG Qj [.agg Bh, .agg Bh] (.bool true):=Ahh (nm:=[]) (k:=0) (ty:=fun _=>0) (nn:=fun _=>false) (key:=0) (u:=0) (uq:=fun _=>0) (E:=E7.zero) (l:=0) (lc:=fun _=>0) (ln:=fun _=>[]) (by decide) (by decide) (by decide) rfl (Hh none) rfl
 have hr0:Ev PG Uc [.nilslice, .nilslice] (.bool true):=Ajl (vs:=[]) (by decide)
 have gen:∀ {k:Int} {nm col dst:List UInt8} {e w:E7},e.ok=true→w.ok=true→Ev PG Fj [e.pv,e.pv] (.bool true)→Ev PG Fj [w.pv,w.pv] (.bool true)→Ev PG Ub [Cb k Bh nm col dst .nilslice e w,Cb k Bh nm col dst .nilslice e w] (.bool true):=fun he hw h3 h4=>Abp rfl rfl rfl he hw hz hr0 h3 h4
 match x,hx with
 | .cre b,hx =>
  have hk:=hx.k
  have ht:Ev PG Qj [.agg b.val, .agg b.val] (.bool true):=by
   have e:b.val=Sj b.nm b.k b.ty b.nn b.key b.u b.uq (wX b.ck) b.l b.lc b.ln:=by
    obtain ⟨m,hm⟩:∃ m,b.k=m+1:=⟨b.k - 1,by omega⟩
    unfold Tb.val K4 Sj Adc Tb.uqV Tb.lkV usV ksV
    rw [hm]
    rfl
   have hp:=Uh b
   rw [e] at hp ⊢
   exact Ahh (by omega) hx.u hx.l (D9 b.ck) (Hh b.ck) hp
  exact Abp rfl (Qr b) rfl rfl rfl ht hr0 (Hh none) (Hh none)
 | .drop nm,_=>exact gen rfl rfl (Hh none) (Hh none)
 | .link nm col dst,_=>exact gen rfl rfl (Hh none) (Hh none)
 | .ins nm vs,hx =>
  have hr:=Ajl hx.2.2.1
  obtain ⟨m,hm⟩:∃ m,vs.length=m+1:=⟨vs.length - 1,by have:=List.length_pos_iff.2 hx.2.1;omega⟩
  rw [hm] at hr
  exact Abp rfl rfl (by show (true&&PV.pureL _)=true;rw [W8];rfl) rfl rfl hz hr (Hh none) (Hh none)
 | .upd nm col e w,_=>exact gen (Bg e) (D9 w) (Ln e) (Hh w)
 | .del nm w,_=>exact gen rfl (D9 w) (Hh none) (Hh w)
 | .slc nm w,_=>exact gen rfl (D9 w) (Hh none) (Hh w)
 | .cou nm w,_=>exact gen rfl (D9 w) (Hh none) (Hh w)
open Go Go.RowKit
def Acu (k L key u l : Nat) : List Ao :=
  [.prim Kw [.atom 10] (eA 60), oI .quo (.atom 0) (nI 4) (.atom 3), .prim Fh [.atom 3, nI 4] (nI ((k : Int) - 1)), .prim Qp [.atom 0] (.atom 4), .op (.len Gl) [.atom 1] (.atom 2),
   oI .quo (.atom 0) (nI 16) (.atom 5), .prim Fh [.atom 5, nI k] (nI key), oI .quo (.atom 0) (nI 64) (.atom 6), .prim Fh [.atom 6, nI 3] (nI u),
   oI .quo (.atom 0) (nI 256) (.atom 7), .prim Fh [.atom 7, nI 3] (nI l), oI .quo (.atom 0) (nI 512) (.atom 8), oI .quo (.atom 0) (nI 1024) (.atom 9)] ++
  (List.range L).flatMap (fun (i : Nat) => [oI .lss (nI i) (.atom 2) (.bool true), .op (.ix Gl) [.atom 1, nI i] (.ref [.atom (20 + i)]), .prim Fh [.atom (20 + i), nI 1073741824] (.atom (24 + i)), oI .rem (.atom (24 + i)) (nI 5) (.atom (28 + i)), oI .add (nI 1) (.atom (28 + i)) (.atom (32 + i)),
     oI .quo (.atom (24 + i)) (nI 5) (.atom (36 + i)), oI .rem (.atom (36 + i)) (nI 3) (.atom (40 + i)), oI .eql (.atom (40 + i)) (nI 0) (.atom (44 + i))]) ++
  (List.range (k - L)).map (fun (i : Nat) => oI .lss (nI (L + i : Nat)) (.atom 2) (.bool false)) ++
  (List.range l).flatMap (fun (i : Nat) => [oI .add (.atom 8) (nI i) (.atom (48 + i)), .prim Fh [.atom (48 + i), nI k] (.atom (50 + i)), oI .add (.atom 9) (nI i) (.atom (52 + i)), .prim Qp [.atom (52 + i)] (.atom (54 + i))])
def Yu (L key i:Nat):PV:=.agg [.str [UInt8.ofNat (97+i)],if i < L then .atom (32+i) else nI (1+(2+i) % 5:Nat),if i=key then .bool true else if i < L then .atom (44+i) else .bool ((2+i) / 5 % 3==0)]
def Vu (k key u:Nat):PV:=if u=0 then .nilslice else .slice 1 ((List.range (min u k)).map fun (i:Nat)=>nI ((key+1+i) % k:Nat))
def Zm (l:Nat):PV:=if l=0 then .nilslice else .slice 2 ((List.range l).map fun (i:Nat)=>.agg [.atom (50+i), .atom (54+i)])
def Azh (nm cols key uq lk:PV):PV:=.agg ([nm,cols,key,uq]++(G7 60++[lk]))
def Al2 (k L key u l:Nat):PV:=Azh (.atom 4) (.slice 3 ((List.range k).map (Yu L key))) (nI key) (Vu k key u) (Zm l)
noncomputable def Lu (k L key u l:Nat):Bool:=A0 (Al2 k L key u l) (Am PG (Aj An (Acu k L key u l)) 60 Aac [.atom 0, .atom 1, .atom 10] [])
theorem Arz:((List.range 2).all fun L=>(List.range 1).all fun key=>(List.range 3).all fun u=>(List.range 3).all fun l=>Lu 1 L key u l)=true:=by kernel_rfl
theorem Aqa:((List.range 3).all fun L=>(List.range 2).all fun key=>(List.range 3).all fun u=>(List.range 3).all fun l=>Lu 2 L key u l)=true:=by kernel_rfl
theorem Aqg:((List.range 4).all fun L=>(List.range 3).all fun key=>(List.range 3).all fun u=>(List.range 3).all fun l=>Lu 3 L key u l)=true:=by kernel_rfl
theorem Ao9:((List.range 5).all fun L=>(List.range 3).all fun u=>(List.range 3).all fun l=>Lu 4 L 0 u l)=true:=by kernel_rfl
theorem Aph:((List.range 5).all fun L=>(List.range 3).all fun u=>(List.range 3).all fun l=>Lu 4 L 1 u l)=true:=by kernel_rfl
theorem Apn:((List.range 5).all fun L=>(List.range 3).all fun u=>(List.range 3).all fun l=>Lu 4 L 2 u l)=true:=by kernel_rfl
theorem Apl:((List.range 5).all fun L=>(List.range 3).all fun u=>(List.range 3).all fun l=>Lu 4 L 3 u l)=true:=by kernel_rfl
theorem Ars:((List.range 5).all fun L=>(List.range 4).all fun key=>(List.range 3).all fun u=>(List.range 3).all fun l=>Lu 4 L key u l)=true:=by
 refine List.all_eq_true.2 fun L hL=>List.all_eq_true.2 fun key hk=>List.all_eq_true.2 fun u hu=>List.all_eq_true.2 fun l hl=>?_
 rw [List.mem_range] at hk
 have:key=0∨key=1∨key=2∨key=3:=by omega
 rcases this with rfl|rfl|rfl|rfl
 ·exact List.all_eq_true.1 (List.all_eq_true.1 (List.all_eq_true.1 Ao9 L hL) u hu) l hl
 ·exact List.all_eq_true.1 (List.all_eq_true.1 (List.all_eq_true.1 Aph L hL) u hu) l hl
 ·exact List.all_eq_true.1 (List.all_eq_true.1 (List.all_eq_true.1 Apn L hL) u hu) l hl
 ·exact List.all_eq_true.1 (List.all_eq_true.1 (List.all_eq_true.1 Apl L hL) u hu) l hl
theorem Auc (k L key u l:Nat) (hk:1≤k∧k≤4) (hL:L≤k) (hkey:key < k) (hu:u < 3) (hl:l < 3):Lu k L key u l=true:=by
 have:k=1∨k=2∨k=3∨k=4:=by omega
 rcases this with rfl|rfl|rfl|rfl
 ·exact List.all_eq_true.1 (List.all_eq_true.1 (List.all_eq_true.1 (List.all_eq_true.1 Arz L (by rw [List.mem_range];omega)) key (by rw [List.mem_range];omega)) u (by rw [List.mem_range];omega)) l (by rw [List.mem_range];omega)
 ·exact List.all_eq_true.1 (List.all_eq_true.1 (List.all_eq_true.1 (List.all_eq_true.1 Aqa L (by rw [List.mem_range];omega)) key (by rw [List.mem_range];omega)) u (by rw [List.mem_range];omega)) l (by rw [List.mem_range];omega)
 ·exact List.all_eq_true.1 (List.all_eq_true.1 (List.all_eq_true.1 (List.all_eq_true.1 Aqg L (by rw [List.mem_range];omega)) key (by rw [List.mem_range];omega)) u (by rw [List.mem_range];omega)) l (by rw [List.mem_range];omega)
 ·exact List.all_eq_true.1 (List.all_eq_true.1 (List.all_eq_true.1 (List.all_eq_true.1 Ars L (by rw [List.mem_range];omega)) key (by rw [List.mem_range];omega)) u (by rw [List.mem_range];omega)) l (by rw [List.mem_range];omega)
open Go Go.RowKit
theorem Auo:((List.range 4).all fun (i:Nat)=>A0 ([PV.str [116], .str [117], .str [119,95,49], .str [116,119,101,108,118,101,95,98,121,116,101,115]].getD i .any) (Am PG (Aj An [.prim Fh [.atom 0,nI 4] (nI i)]) 20 Qp [.atom 0] []))=true:=by kernel_rfl
def D1 (n:Int):List UInt8:=[[116],[117],[119,95,49],[116,119,101,108,118,101,95,98,121,116,101,115]].getD (C7 n 4).toNat []
theorem Xu (n:Int):Ev PG Qp [nI n] (.str (D1 n)):=by
 obtain ⟨h1,h2⟩:=Kp n 4 (by decide) (by decide)
 obtain ⟨i,hi⟩:∃ i:Nat,C7 n 4=i:=⟨(C7 n 4).toNat,by omega⟩
 have hw:=Iu n 4 (by decide)
 rw [hi] at hw
 have hk:=As (List.all_eq_true.1 Auo i (by rw [List.mem_range];omega))
 have e:D1 n=([[116],[117],[119,95,49],[116,119,101,108,118,101,95,98,121,116,101,115]]:List (List UInt8)).getD i []:=by unfold D1;rw [hi];rfl
 rw [e]
 have h4:i=0∨i=1∨i=2∨i=3:=by omega
 rcases h4 with rfl|rfl|rfl|rfl
 all_goals exact Ev.facts Af (Ap (l:=[nI n]) rfl) hk ⟨⟨hw,rfl⟩,trivial⟩ rfl rfl
theorem Xj (n:Int):Ea (D1 n):=by
 have h:∀ i,i < 4→H5 (([[116],[117],[119,95,49],[116,119,101,108,118,101,95,98,121,116,101,115]]:List (List UInt8)).getD i [])=true∧Bq.contains (([[116],[117],[119,95,49],[116,119,101,108,118,101,95,98,121,116,101,115]]:List (List UInt8)).getD i [])=false:=by decide +kernel
 obtain ⟨h1,h2⟩:=Kp n 4 (by decide) (by decide)
 have:=h (C7 n 4).toNat (by omega)
 exact ⟨this.1,this.2⟩
def tM (xs:List Int) (i:Nat):Int:=C7 (xs.getD i 0) 1073741824
def tL (n : Int) (mv : PV) (xs : List Int) (k : Nat) (cv : PV) (E : E7) : List PV :=
  [nI n, mv, nI xs.length, nI (Ak (n.tdiv 4)), .str (D1 n), nI (Ak (n.tdiv 16)), nI (Ak (n.tdiv 64)), nI (Ak (n.tdiv 256)), nI (Ak (n.tdiv 512)), nI (Ak (n.tdiv 1024)),
   cv, nI 0, nI 0, nI 0, nI 0, nI 0, nI 0, nI 0, nI 0, nI 0,
   nI (xs.getD 0 0), nI (xs.getD 1 0), nI (xs.getD 2 0), nI (xs.getD 3 0), nI (tM xs 0), nI (tM xs 1), nI (tM xs 2), nI (tM xs 3),
   nI ((tM xs 0).tmod 5), nI ((tM xs 1).tmod 5), nI ((tM xs 2).tmod 5), nI ((tM xs 3).tmod 5), nI (Ak (1 + (tM xs 0).tmod 5)), nI (Ak (1 + (tM xs 1).tmod 5)), nI (Ak (1 + (tM xs 2).tmod 5)), nI (Ak (1 + (tM xs 3).tmod 5)),
   nI (Ak ((tM xs 0).tdiv 5)), nI (Ak ((tM xs 1).tdiv 5)), nI (Ak ((tM xs 2).tdiv 5)), nI (Ak ((tM xs 3).tdiv 5)), nI ((Ak ((tM xs 0).tdiv 5)).tmod 3), nI ((Ak ((tM xs 1).tdiv 5)).tmod 3), nI ((Ak ((tM xs 2).tdiv 5)).tmod 3), nI ((Ak ((tM xs 3).tdiv 5)).tmod 3),
   .bool ((Ak ((tM xs 0).tdiv 5)).tmod 3 == 0), .bool ((Ak ((tM xs 1).tdiv 5)).tmod 3 == 0), .bool ((Ak ((tM xs 2).tdiv 5)).tmod 3 == 0), .bool ((Ak ((tM xs 3).tdiv 5)).tmod 3 == 0),
   nI (Ak (Ak (n.tdiv 512) + 0)), nI (Ak (Ak (n.tdiv 512) + 1)), nI (C7 (Ak (Ak (n.tdiv 512) + 0)) k), nI (C7 (Ak (Ak (n.tdiv 512) + 1)) k), nI (Ak (Ak (n.tdiv 1024) + 0)), nI (Ak (Ak (n.tdiv 1024) + 1)), .str (D1 (Ak (Ak (n.tdiv 1024) + 0))), .str (D1 (Ak (Ak (n.tdiv 1024) + 1)))] ++ ([nI 0, nI 0, nI 0, nI 0] ++ E.L)
theorem Awh (n:Int) {mv:PV} {xs:List Int} (hmv:mv = .slice 1 (xs.map (.int .i64))∨(mv = .nilslice∧xs=[])) (k:Nat) {cv:PV} (hc:(cv.clean&&cv.pure)=true) {E:E7} (hE:E.ok=true):Bc (Ab (tL n mv xs k cv E)):=by
 refine Ap ?_
 unfold tL
 rw [List.all_append,List.all_append,show (E.L.all fun p=>p.clean&&p.pure)=true from hE]
 simp only [List.all_cons,(Wy hmv).1,hc,List.all_nil]
 rfl
theorem Ao3 (n:Int) {mv:PV} {xs:List Int} (hmv:mv = .slice 1 (xs.map (.int .i64))∨(mv = .nilslice∧xs=[])) (k L key u l:Nat) {cv:PV} {E:E7} (hone:Ev PG Kw [cv] E.pv) (hk:1≤k∧k≤4) (hL:L=min xs.length k) (e1:C7 (Ak (n.tdiv 4)) 4=(k:Int) - 1) (e2:C7 (Ak (n.tdiv 16)) k=key)
  (e3:C7 (Ak (n.tdiv 64)) 3=u) (e4:C7 (Ak (n.tdiv 256)) 3=l) (hl:l < 3):Ah PG (Ab (tL n mv xs k cv E)) (Acu k L key u l):=by
 have hk0:(k:Int)≠0:=by omega
 have four:∀ i,i < L→(i=0∨i=1∨i=2∨i=3)∧i < xs.length:=fun i hi=>by omega
 have w1:=Iu (Ak (n.tdiv 4)) 4 (by decide)
 have w2:=Iu (Ak (n.tdiv 16)) k hk0
 have w3:=Iu (Ak (n.tdiv 64)) 3 (by decide)
 have w4:=Iu (Ak (n.tdiv 256)) 3 (by decide)
 rw [e1] at w1
 rw [e2] at w2
 rw [e3] at w3
 rw [e4] at w4
 unfold Acu
 refine Ah.append (Ah.append (Ah.append ⟨Ai hone rfl rfl rfl,?_,?_,?_,?_,?_,?_,?_,?_,?_,?_,?_,?_,trivial⟩ (Ah.of ?_)) (Ah.of ?_)) (Ah.of ?_)
 ·exact Bm rfl rfl rfl rfl (by decide) rfl
 ·exact Ai w1 rfl rfl rfl
 ·exact Ai (Xu n) rfl rfl rfl
 ·exact All hmv rfl rfl
 ·exact Bm rfl rfl rfl rfl (by decide) rfl
 ·exact Ai w2 rfl rfl rfl
 ·exact Bm rfl rfl rfl rfl (by decide) rfl
 ·exact Ai w3 rfl rfl rfl
 ·exact Bm rfl rfl rfl rfl (by decide) rfl
 ·exact Ai w4 rfl rfl rfl
 ·exact Bm rfl rfl rfl rfl (by decide) rfl
 ·exact Bm rfl rfl rfl rfl (by decide) rfl
 ·intro f hf
  obtain ⟨i,hi,hf⟩:=List.mem_flatMap.1 hf
  rw [List.mem_range] at hi
  obtain ⟨h4,hx⟩:=four i hi
  have hlt:((i:Nat):Int) < (xs.length:Int):=by omega
  have hw:=Iu (xs.getD i 0) 1073741824 (by decide)
  simp only [List.mem_cons,List.not_mem_nil,or_false] at hf
  rcases hf with rfl|rfl|rfl|rfl|rfl|rfl|rfl|rfl
  ·exact Av (c:=true) (a:=i) (b:=xs.length) rfl rfl rfl (by simp [Aq,hlt]) (by decide) rfl
  ·rcases h4 with rfl|rfl|rfl|rfl<;>exact fIx hmv hx rfl rfl rfl
  ·rcases h4 with rfl|rfl|rfl|rfl<;>exact Ai hw rfl rfl rfl
  ·rcases h4 with rfl|rfl|rfl|rfl<;>exact Bm rfl rfl rfl rfl (by decide) rfl
  ·rcases h4 with rfl|rfl|rfl|rfl<;>exact Bm rfl rfl rfl rfl (by decide) rfl
  ·rcases h4 with rfl|rfl|rfl|rfl<;>exact Bm rfl rfl rfl rfl (by decide) rfl
  ·rcases h4 with rfl|rfl|rfl|rfl<;>exact Bm rfl rfl rfl rfl (by decide) rfl
  ·rcases h4 with rfl|rfl|rfl|rfl<;>exact Av rfl rfl rfl rfl (by decide) rfl
 ·intro f hf
  obtain ⟨i,hi,rfl⟩:=List.mem_map.1 hf
  rw [List.mem_range] at hi
  have hge:¬ ((L+i:Nat):Int) < (xs.length:Int):=by omega
  exact Av (c:=false) (a:=(L+i:Nat)) (b:=xs.length) rfl rfl rfl (by simp only [Aq];rw [decide_eq_false hge]) (by decide) rfl
 ·intro f hf
  obtain ⟨i,hi,hf⟩:=List.mem_flatMap.1 hf
  rw [List.mem_range] at hi
  have h2:i=0∨i=1:=by omega
  have hw:=Iu (Ak (Ak (n.tdiv 512)+i)) k hk0
  have hn:=Xu (Ak (Ak (n.tdiv 1024)+i))
  simp only [List.mem_cons,List.not_mem_nil,or_false] at hf
  rcases hf with rfl|rfl|rfl|rfl<;>rcases h2 with rfl|rfl
  ·exact Bm rfl rfl rfl rfl (by decide) rfl
  ·exact Bm rfl rfl rfl rfl (by decide) rfl
  ·exact Ai hw rfl rfl rfl
  ·exact Ai hw rfl rfl rfl
  ·exact Bm rfl rfl rfl rfl (by decide) rfl
  ·exact Bm rfl rfl rfl rfl (by decide) rfl
  ·exact Ai hn rfl rfl rfl
  ·exact Ai hn rfl rfl rfl
def Md (n:Int) (xs:List Int) (k key u l:Nat) (ck:Option Xp):Tb where
 nm:=D1 n
 k:=k
 t i:=if i < min xs.length k then ((tM xs i) % 5).toNat else (2+i) % 5
 nn i:=if i=key then true else if i < min xs.length k then (Ak ((tM xs i).tdiv 5)).tmod 3==0 else ((2+i) / 5 % 3==0)
 key:=key
 u:=min u k
 uq i:=(key+1+i) % k
 ck:=ck
 l:=l
 lc i:=(C7 (Ak (Ak (n.tdiv 512)+i)) k).toNat
 ln i:=D1 (Ak (Ak (n.tdiv 1024)+i))
theorem Ac0 (xs:List Int) (i:Nat):0≤tM xs i∧tM xs i < 1073741824:=Kp _ _ (by decide) (by decide)
theorem Ate (n:Int) (xs:List Int) {k key u l:Nat} {ck:Option Xp} (hk:1≤k∧k≤4) (hkey:key < k) (hu:u < 3) (hl:l < 3) (hc:∀ e,ck=some e→J5 e):(Md n xs k key u l ck).Wf where
 nm:=Xj n
 k:=hk
 t i:=by
  show (if i < min xs.length k then ((tM xs i) % 5).toNat else (2+i) % 5) < 5
  split
  ·have:=(Ac0 xs i).1
   omega
  ·omega
 key:=hkey
 u:=by show min u k < 3;omega
 uq i:=by show (key+1+i) % k < k;exact Nat.mod_lt _ (by omega)
 ck:=hc
 l:=hl
 lc i:=by
  obtain ⟨h1,h2⟩:=Kp (Ak (Ak (n.tdiv 512)+i)) k (by omega) (by omega)
  show (C7 (Ak (Ak (n.tdiv 512)+i)) k).toNat < k
  omega
 ln i:=Xj _
theorem Ap8 (n:Int) (mv:PV) (xs:List Int) (cv:PV) (ck:Option Xp) {k key u l:Nat} (hk:1≤k∧k≤4) (hl:l < 3) :
  subD (Ab (tL n mv xs k cv (wX ck))) (Al2 k (min xs.length k) key u l) = .agg (Md n xs k key u l ck).val:=by
 have hcol:Cj (Ab (tL n mv xs k cv (wX ck))) ((List.range k).map (Yu (min xs.length k) key))=(List.range k).map (E8 (Md n xs k key u l ck).ty (Md n xs k key u l ck).nn):=by
  rw [Gg,List.map_map]
  refine List.map_congr_left fun i hi=>?_
  rw [List.mem_range] at hi
  have h4:i=0∨i=1∨i=2∨i=3:=by omega
  have hp:=Ac0 xs i
  have ety:(Md n xs k key u l ck).ty i=if i < min xs.length k then Ak (1+(tM xs i).tmod 5) else (1+(2+i) % 5:Nat):=by
   show (((if i < min xs.length k then ((tM xs i) % 5).toNat else (2+i) % 5)+1:Nat):Int)=_
   split
   ·have e:(tM xs i).tmod 5=tM xs i % 5:=Int.tmod_eq_emod_of_nonneg hp.1
    have e2:Ak (1+tM xs i % 5)=1+tM xs i % 5:=Pj (by omega) (by omega)
    rw [e,e2]
    omega
   ·omega
  have enn:(Md n xs k key u l ck).nn i=if i=key then true else if i < min xs.length k then (Ak ((tM xs i).tdiv 5)).tmod 3==0 else ((2+i) / 5 % 3==0):=rfl
  simp only [Function.comp,Yu,E8]
  rw [ety,enn]
  by_cases h1:i < min xs.length k
  ·by_cases h2:i=key
   ·simp only [if_pos h1,if_pos h2]
    rcases h4 with rfl|rfl|rfl|rfl<;>rfl
   ·simp only [if_pos h1,if_neg h2]
    rcases h4 with rfl|rfl|rfl|rfl<;>rfl
  ·by_cases h2:i=key
   ·simp only [if_neg h1,if_pos h2]
    rcases h4 with rfl|rfl|rfl|rfl<;>rfl
   ·simp only [if_neg h1,if_neg h2]
    rcases h4 with rfl|rfl|rfl|rfl<;>rfl
 have huq:subD (Ab (tL n mv xs k cv (wX ck))) (Vu k key u)=(Md n xs k key u l ck).uqV (min u k):=by
  unfold Vu Tb.uqV
  by_cases h0:u=0
  ·rw [if_pos h0,h0,Nat.zero_min];rfl
  ·rw [if_neg h0]
   obtain ⟨m,hm⟩:∃ m,min u k=m+1:=⟨min u k - 1,by omega⟩
   rw [hm]
   show PV.slice 1 (Cj _ _)=PV.slice 1 _
   congr 1
   rw [Gg,List.map_map]
   rfl
 have hlk:subD (Ab (tL n mv xs k cv (wX ck))) (Zm l)=(Md n xs k key u l ck).lkV l:=by
  obtain ⟨c1,c2⟩:=Kp (Ak (Ak (n.tdiv 512)+0)) k (by omega) (by omega)
  obtain ⟨d1,d2⟩:=Kp (Ak (Ak (n.tdiv 512)+1)) k (by omega) (by omega)
  have ea:(((C7 (Ak (Ak (n.tdiv 512)+0)) k).toNat:Nat):Int)=C7 (Ak (Ak (n.tdiv 512)+0)) k:=by omega
  have eb:(((C7 (Ak (Ak (n.tdiv 512)+1)) k).toNat:Nat):Int)=C7 (Ak (Ak (n.tdiv 512)+1)) k:=by omega
  have:l=0∨l=1∨l=2:=by omega
  rcases this with rfl|rfl|rfl
  ·rfl
  ·show PV.slice 2 [.agg [nI (C7 (Ak (Ak (n.tdiv 512)+0)) k), .str (D1 (Ak (Ak (n.tdiv 1024)+0)))]]=PV.slice 2 [.agg [nI (((C7 (Ak (Ak (n.tdiv 512)+0)) k).toNat:Nat):Int), .str (D1 (Ak (Ak (n.tdiv 1024)+0)))]]
   rw [ea]
  ·show PV.slice 2 [.agg [nI (C7 (Ak (Ak (n.tdiv 512)+0)) k), .str (D1 (Ak (Ak (n.tdiv 1024)+0)))], .agg [nI (C7 (Ak (Ak (n.tdiv 512)+1)) k), .str (D1 (Ak (Ak (n.tdiv 1024)+1)))]]=PV.slice 2 [.agg [nI (((C7 (Ak (Ak (n.tdiv 512)+0)) k).toNat:Nat):Int), .str (D1 (Ak (Ak (n.tdiv 1024)+0)))], .agg [nI (((C7 (Ak (Ak (n.tdiv 512)+1)) k).toNat:Nat):Int), .str (D1 (Ak (Ak (n.tdiv 1024)+1)))]]
   rw [ea,eb]
 show PV.agg (Cj _ (([.atom 4, .slice 3 ((List.range k).map (Yu (min xs.length k) key)),nI key,Vu k key u]:List PV)++(G7 60++[Zm l])))=_
 rw [Ot,Ot]
 show PV.agg ([PV.str (D1 n), .slice 3 (Cj _ _),nI key,subD _ (Vu k key u)]++((wX ck).L++[subD _ (Zm l)]))=_
 rw [hcol,huq,hlk]
 rfl
theorem Ard (n:Int) {mv:PV} {xs:List Int} (hmv:mv = .slice 1 (xs.map (.int .i64))∨(mv = .nilslice∧xs=[])) {cv:PV} (hc:(cv.clean&&cv.pure)=true∧cv.one=true) {ck:Option Xp} (hck:∀ e,ck=some e→J5 e) (hone:Ev PG Kw [cv] (wX ck).pv) :
  ∃ b:Tb,b.Wf∧Ev PG Aac [nI n,mv,cv] (.agg b.val):=by
 obtain ⟨a1,a2⟩:=Kp (Ak (n.tdiv 4)) 4 (by decide) (by decide)
 obtain ⟨k,hk⟩:∃ k:Nat,C7 (Ak (n.tdiv 4)) 4=(k:Int) - 1:=⟨(C7 (Ak (n.tdiv 4)) 4).toNat+1,by omega⟩
 have hk4:1≤k∧k≤4:=by omega
 obtain ⟨b1,b2⟩:=Kp (Ak (n.tdiv 16)) k (by omega) (by omega)
 obtain ⟨key,hkey⟩:∃ j:Nat,C7 (Ak (n.tdiv 16)) k=j:=⟨(C7 (Ak (n.tdiv 16)) k).toNat,by omega⟩
 obtain ⟨c1,c2⟩:=Kp (Ak (n.tdiv 64)) 3 (by decide) (by decide)
 obtain ⟨u,hu⟩:∃ j:Nat,C7 (Ak (n.tdiv 64)) 3=j:=⟨(C7 (Ak (n.tdiv 64)) 3).toNat,by omega⟩
 obtain ⟨d1,d2⟩:=Kp (Ak (n.tdiv 256)) 3 (by decide) (by decide)
 obtain ⟨l,hl⟩:∃ j:Nat,C7 (Ak (n.tdiv 256)) 3=j:=⟨(C7 (Ak (n.tdiv 256)) 3).toNat,by omega⟩
 have hf:=Ao3 n hmv k (min xs.length k) key u l hone hk4 rfl hk hkey hu hl (by omega)
 have hr:=As (Auc k (min xs.length k) key u l hk4 (by omega) (by omega) (by omega) (by omega))
 have hs:=Ap8 n mv xs cv ck (key:=key) (u:=u) hk4 (show l < 3 by omega)
 refine ⟨Md n xs k key u l ck,Ate n xs hk4 (by omega) (by omega) (by omega) hck,?_⟩
 rw [← hs]
 have hg:=Wy hmv
 simp only [Bool.and_eq_true] at hg
 have hc1:=hc.1
 simp only [Bool.and_eq_true] at hc1
 refine Ev.facts Af (Awh n hmv k hc.1 (D9 ck)) hr hf ?_ (by
  rw [hs,Bool.and_eq_true]
  refine ⟨Uh _,List.all_eq_true.2 fun p hp=>?_⟩
  have:=List.all_eq_true.1 (Qr _) p hp
  rw [Bool.and_eq_true] at this
  exact this.1)
 show ((true&&true)&&true&&(((mv.pure&&mv.one)&&true)&&(((cv.pure&&cv.one)&&true)&&true)))=true
 rw [hg.1.2,hg.2,hc1.2,hc.2];rfl
open Go Go.RowKit
open Go.Proofs.YtdlkibeljkapeaaGreatDoor.B
noncomputable abbrev Sz (k:Nat) (r:PV) (fs:List Ao):Bool:=A0 r (Am PG (Aj An (.prim Fh [.atom 0,nI 8] (nI k)::fs)) 30 Aau [.atom 0, .atom 1, .atom 2, .atom 3, .atom 4, .atom 5] [])
def Aku:List PV:=(List.range 12).map fun i=>.atom (80+i)
theorem Auf:Sz 0 (Cf (nI 1) Aku (.str []) (.str []) (.str []) .nilslice E7.zero.L E7.zero.L) [.prim Aac [.atom 1, .atom 2, .atom 5] (.agg Aku)]=true:=by kernel_rfl
abbrev Ve:Ao:=.prim Qp [.atom 1] (.atom 6)
theorem Asi:Sz 1 (Cf (nI 2) Bh (.atom 6) (.str []) (.str []) .nilslice E7.zero.L E7.zero.L) [Ve]=true:=by kernel_rfl
theorem Asb:((List.range 6).all fun c=>Sz 2 (Cf (nI 3) Bh (.atom 6) (.str (Ii.getD c [])) (.atom 9) .nilslice E7.zero.L E7.zero.L) [Ve,oI .quo (.atom 1) (nI 4) (.atom 7), .prim Fh [.atom 7,nI 6] (nI c),oI .quo (.atom 1) (nI 24) (.atom 8), .prim Qp [.atom 8] (.atom 9)])=true:=by kernel_rfl
def siF (c L:Nat):List Ao:=[Ve,oI .quo (.atom 1) (nI 4) (.atom 7), .prim Fh [.atom 7,nI 5] (nI c), .op (.len Gl) [.atom 2] (.atom 10)] ++
 ((List.range L).flatMap (fun (i:Nat)=>[oI .lss (nI i) (.atom 10) (.bool true), .op (.ix Gl) [.atom 2,nI i] (.ref [.atom (20+i)]), .prim Fh [.atom (20+i),nI 1073741824] (.atom (25+i)),oI .quo (.atom (25+i)) (nI 50) (.atom (30+i)),oI .sub (.atom (30+i)) (nI 1000) (.atom (35+i)), .prim Qo [.atom (25+i), .atom (35+i), .atom 3] (M3 (160+4*i))]) ++
 (List.range (c+1 - L)).flatMap (fun (j:Nat)=>[oI .lss (nI (L+j:Nat)) (.atom 10) (.bool false), .prim Qo [nI (L+j:Nat),nI (-1000), .atom 3] (M3 (160+4*(L+j)))]))
theorem Au7:((List.range 5).all fun c=>(List.range (c+2)).all fun L=>Sz 3 (Cf (nI 4) Bh (.atom 6) (.str []) (.str []) (.slice 4 ((List.range (c+1)).map fun m=>M3 (160+4*m))) E7.zero.L E7.zero.L) (siF c L))=true:=by kernel_rfl
theorem Au5:((List.range 6).all fun c=>Sz 4 (Cf (nI 5) Bh (.atom 6) (.str (Ii.getD c [])) (.str []) .nilslice (G7 60) (G7 70)) [Ve,oI .quo (.atom 1) (nI 4) (.atom 7), .prim Fh [.atom 7,nI 6] (nI c), .prim Wt [.atom 5] (eA 60), .prim Kw [.atom 4] (eA 70)])=true:=by kernel_rfl
theorem Adw:((List.range 3).all fun c=>Sz (5+c) (Cf (nI (6+c:Nat)) Bh (.atom 6) (.str []) (.str []) .nilslice E7.zero.L (G7 70)) [Ve, .prim Kw [.atom 4] (eA 70)])=true:=by kernel_rfl
open Go Go.RowKit
open Go.Proofs.YtdlkibeljkapeaaGreatDoor.B
def J2 (kd n : Int) (mv : PV) (xs : List Int) (s : List UInt8) (wv cv : PV) (E W : E7) (T : List PV) (V : Nat → V4) : List PV :=
  [nI kd, nI n, mv, .str s, wv, cv, .str (D1 n), nI (Ak (n.tdiv 4)), nI (Ak (n.tdiv 24)), .str (D1 (Ak (n.tdiv 24))), nI xs.length, nI 0, nI 0, nI 0, nI 0, nI 0, nI 0, nI 0, nI 0, nI 0,
   nI (xs.getD 0 0), nI (xs.getD 1 0), nI (xs.getD 2 0), nI (xs.getD 3 0), nI (xs.getD 4 0), nI (tM xs 0), nI (tM xs 1), nI (tM xs 2), nI (tM xs 3), nI (tM xs 4),
   nI (Ak ((tM xs 0).tdiv 50)), nI (Ak ((tM xs 1).tdiv 50)), nI (Ak ((tM xs 2).tdiv 50)), nI (Ak ((tM xs 3).tdiv 50)), nI (Ak ((tM xs 4).tdiv 50)),
   nI (Ak (Ak ((tM xs 0).tdiv 50) - 1000)), nI (Ak (Ak ((tM xs 1).tdiv 50) - 1000)), nI (Ak (Ak ((tM xs 2).tdiv 50) - 1000)), nI (Ak (Ak ((tM xs 3).tdiv 50) - 1000)), nI (Ak (Ak ((tM xs 4).tdiv 50) - 1000))] ++
  (List.replicate 20 (nI 0) ++ (E.L ++ ([nI 0, nI 0, nI 0] ++ (W.L ++ ([nI 0, nI 0, nI 0] ++ (T ++ (List.replicate 68 (nI 0) ++ (Dj (V 0) ++ (Dj (V 1) ++ (Dj (V 2) ++ (Dj (V 3) ++ Dj (V 4))))))))))))
def Hz (p:PV):Prop:=(p.clean&&p.pure)=true∧p.one=true
theorem Nu {kd n:Int} {mv:PV} {xs:List Int} {s:List UInt8} {wv cv:PV} {E W:E7} {T:List PV} {V:Nat→V4} (h1:Hz mv) (h2:Hz wv) (h3:Hz cv) (hE:E.ok=true) (hW:W.ok=true) (hT:(T.all fun p=>p.clean&&p.pure)=true):Bc (Ab (J2 kd n mv xs s wv cv E W T V)):=by
 refine Ap ?_
 unfold J2
 have e1:(E.L.all fun p=>p.clean&&p.pure)=true:=hE
 have e2:(W.L.all fun p=>p.clean&&p.pure)=true:=hW
 simp only [List.all_append,e1,e2,hT]
 simp only [List.all_cons,h1.1,h2.1,h3.1]
 rfl
theorem Nx {nu:Nat→PV} {kd n:Int} {mv:PV} {s:List UInt8} {wv cv:PV} (h1:Hz mv) (h2:Hz wv) (h3:Hz cv) (e0:nu 0=nI kd) (e1:nu 1=nI n) (e2:nu 2=mv) (e3:nu 3 = .str s) (e4:nu 4=wv) (e5:nu 5=cv) :
  ([PV.atom 0, .atom 1, .atom 2, .atom 3, .atom 4, .atom 5].all fun p=>E2 nu p&&p.shut)=true:=by
 have a1:=h1.1
 have a2:=h2.1
 have a3:=h3.1
 simp only [Bool.and_eq_true] at a1 a2 a3
 simp only [List.all_cons,List.all_nil,E2,subD,C9,e0,e1,e2,e3,e4,e5,a1.2,a2.2,a3.2,h1.2,h2.2,h3.2]
 rfl
theorem Wp (nl:Nat) (l:List Au):Hz (A1 nl l):=by
 have h:=Ja nl l
 exact ⟨by rw [h.1,h.2.1];rfl,h.2.2⟩
theorem Akv {nl:Nat} {l:List Au} (hn:F6 nl l) (ho:Au.oks l) (h:Ik l=true):∃ w:Option Xp,Gx w∧Ev PG Kw [A1 nl l] (wX w).pv:=by
 rcases Au9 hn ho h with ⟨_,h⟩|⟨_,e,he,h⟩
 ·exact ⟨none,(by intro e h;cases h),h⟩
 ·exact ⟨some e,(by intro e' h';cases h';exact he),h⟩
theorem Ajs:∀ c,c < 6→H5 (Ii.getD c [])=true∧Bq.contains (Ii.getD c [])=false:=by decide +kernel
theorem wK (n:Int) (m:Int) (h0:0 < m) (h1:m≤1000):∃ k:Nat,(k:Int) < m∧Ev PG Fh [nI n,nI m] (nI k):=by
 obtain ⟨k,h2,h3⟩:=wN n m h0 h1
 have:=Iu n m (by omega)
 rw [h2] at this
 exact ⟨k,h3,this⟩
set_option maxRecDepth 40000 in
set_option maxHeartbeats 4000000 in
theorem Atj (kd n:Int) {mv:PV} {xs:List Int} (hmv:mv = .slice 1 (xs.map (.int .i64))∨(mv = .nilslice∧xs=[])) {s:List UInt8} (hs:s.length≤1000) {wn:Nat} {wl:List Au} (hwn:F6 wn wl) (hwo:Au.oks wl) (hwf:Ik wl=true) {cn:Nat} {cl:List Au} (hcn:F6 cn cl) (hco:Au.oks cl) (hcf:Ik cl=true) :
  ∃ x:Sx,x.wf∧Ev PG Aau [nI kd,nI n,mv, .str s,A1 wn wl,A1 cn cl] x.pv:=by
 obtain ⟨k,hk8,hwk⟩:=wK kd 8 (by decide) (by decide)
 have gm:Hz mv:=Wy hmv
 have gw:=Wp wn wl
 have gc:=Wp cn cl
 obtain ⟨w,hw,hwe⟩:=Akv hwn hwo hwf
 obtain ⟨ck,hck,hce⟩:=Akv hcn hco hcf
 obtain ⟨e,he,hse⟩:=Atd hcn hco hcf
 obtain ⟨b,hb,hbe⟩:=Ard n hmv gc hck hce
 have hnm:=Xu n
 have hnmo:=Xj n
 have h4 : -9223372036854775808≤n∨True:=.inr trivial
 have hz12:((List.replicate 12 (nI 0)).all fun p=>p.clean&&p.pure)=true:=rfl
 have c8:k=0∨k=1∨k=2∨k=3∨k=4∨k=5∨k=6∨k=7:=by omega
 rcases c8 with rfl|rfl|rfl|rfl|rfl|rfl|rfl|rfl
 ·refine ⟨.cre b,hb,?_⟩
  have hnu:Bc (Ab (J2 kd n mv xs s (A1 wn wl) (A1 cn cl) E7.zero E7.zero b.val (fun _=>v0))):=Nu gm gw gc rfl rfl (Qr b)
  have hp:=Nv (x:=.cre b)
  exact Ev.facts (args:=[.atom 0, .atom 1, .atom 2, .atom 3, .atom 4, .atom 5]) Af hnu (As Auf) ⟨Ai hwk rfl rfl rfl,Ai hbe rfl rfl rfl,trivial⟩ (Nx gm gw gc rfl rfl rfl rfl rfl rfl) hp
 ·have hnu:Bc (Ab (J2 kd n mv xs s (A1 wn wl) (A1 cn cl) E7.zero E7.zero (List.replicate 12 (nI 0)) (fun _=>v0))):=Nu gm gw gc rfl rfl rfl
  exact ⟨.drop (D1 n),hnmo,Ev.facts (args:=[.atom 0, .atom 1, .atom 2, .atom 3, .atom 4, .atom 5]) Af hnu (As Asi) ⟨Ai hwk rfl rfl rfl,Ai hnm rfl rfl rfl,trivial⟩ (Nx gm gw gc rfl rfl rfl rfl rfl rfl) rfl⟩
 ·obtain ⟨c,hc,hwc⟩:=wK (Ak (n.tdiv 4)) 6 (by decide) (by decide)
  have hnu:Bc (Ab (J2 kd n mv xs s (A1 wn wl) (A1 cn cl) E7.zero E7.zero (List.replicate 12 (nI 0)) (fun _=>v0))):=Nu gm gw gc rfl rfl rfl
  have hcol:=Ajs c (by omega)
  exact ⟨.link (D1 n) (Ii.getD c []) (D1 (Ak (n.tdiv 24))),⟨hnmo,⟨hcol.1,hcol.2⟩,Xj _⟩,Ev.facts (args:=[.atom 0, .atom 1, .atom 2, .atom 3, .atom 4, .atom 5]) Af hnu (As (List.all_eq_true.1 Asb c (by rw [List.mem_range];omega)))
   ⟨Ai hwk rfl rfl rfl,Ai hnm rfl rfl rfl,Bm rfl rfl rfl rfl (by decide) rfl,Ai hwc rfl rfl rfl,Bm rfl rfl rfl rfl (by decide) rfl,Ai (Xu _) rfl rfl rfl,trivial⟩ (Nx gm gw gc rfl rfl rfl rfl rfl rfl) rfl⟩
 ·obtain ⟨c,hc,hwc⟩:=wK (Ak (n.tdiv 4)) 5 (by decide) (by decide)
  have hmk:∀ i,∃ q:V4 × List UInt8,i < 5→Ie q.1 q.2∧Hk q.2∧(if i < xs.length then Ev PG Qo [nI (tM xs i),nI (Ak (Ak ((tM xs i).tdiv 50) - 1000)), .str s] (Den.vP q.1) else Ev PG Qo [nI i,nI (-1000), .str s] (Den.vP q.1)):=fun i=>by
   by_cases hi:i < 5
   ·by_cases hx:i < xs.length
    ·have hp:=Ac0 xs i
     have h50:(tM xs i).tdiv 50=tM xs i / 50:=Int.tdiv_eq_ediv_of_nonneg hp.1
     have e1:Ak ((tM xs i).tdiv 50)=tM xs i / 50:=by rw [h50];exact Pj (by omega) (by omega)
     have e2:Ak (Ak ((tM xs i).tdiv 50) - 1000)=tM xs i / 50 - 1000:=by rw [e1];exact Pj (by omega) (by omega)
     obtain ⟨N,S,st,hm,hev⟩:=Abv (tM xs i) (Ak (Ak ((tM xs i).tdiv 50) - 1000)) s (by unfold I64;omega) (by rw [e2];unfold I64;omega) (by omega)
     obtain ⟨t,ht,hnb⟩:=Abz hm hm.v.i
     exact ⟨(_,t),fun _=>⟨ht,hnb,by rw [if_pos hx];exact hev⟩⟩
    ·obtain ⟨N,S,st,hm,hev⟩:=Abv (i:Int) (-1000) s (by unfold I64;omega) (by unfold I64;omega) (by omega)
     obtain ⟨t,ht,hnb⟩:=Abz hm hm.v.i
     exact ⟨(_,t),fun _=>⟨ht,hnb,by rw [if_neg hx];exact hev⟩⟩
   ·exact ⟨(v0,[]),fun h=>absurd h hi⟩
  obtain ⟨Q,hQ⟩:=Classical.axiomOfChoice hmk
  have hnu:Bc (Ab (J2 kd n mv xs s (A1 wn wl) (A1 cn cl) E7.zero E7.zero (List.replicate 12 (nI 0)) (fun i=>(Q i).1))):=Nu gm gw gc rfl rfl rfl
  obtain ⟨L,hL⟩:∃ L,L=min xs.length (c+1):=⟨_,rfl⟩
  have hc5:c < 5:=by omega
  have hkk:=As (List.all_eq_true.1 (List.all_eq_true.1 Au7 c (by rw [List.mem_range];omega)) L (by rw [List.mem_range];omega))
  have hf:Ah PG (Ab (J2 kd n mv xs s (A1 wn wl) (A1 cn cl) E7.zero E7.zero (List.replicate 12 (nI 0)) (fun i=>(Q i).1))) (.prim Fh [.atom 0,nI 8] (nI 3)::siF c L):=by
   refine ⟨Ai hwk rfl rfl rfl,?_⟩
   unfold siF
   refine Ah.append ⟨Ai hnm rfl rfl rfl,Bm rfl rfl rfl rfl (by decide) rfl,Ai hwc rfl rfl rfl,All hmv rfl rfl,trivial⟩ (Ah.append (Ah.of ?_) (Ah.of ?_))
   ·intro f hf
    obtain ⟨i,hi,hf⟩:=List.mem_flatMap.1 hf
    rw [List.mem_range] at hi
    have hx:i < xs.length:=by omega
    have h5:i=0∨i=1∨i=2∨i=3∨i=4:=by omega
    have hlt:((i:Nat):Int) < (xs.length:Int):=by omega
    have hw:=Iu (xs.getD i 0) 1073741824 (by decide)
    have hq:=(hQ i (by omega)).2.2
    rw [if_pos hx] at hq
    simp only [List.mem_cons,List.not_mem_nil,or_false] at hf
    rcases hf with rfl|rfl|rfl|rfl|rfl|rfl
    ·exact Av (c:=true) (a:=i) (b:=xs.length) rfl rfl rfl (by simp [Aq,hlt]) (by decide) rfl
    ·rcases h5 with rfl|rfl|rfl|rfl|rfl<;>exact fIx hmv hx rfl rfl rfl
    ·rcases h5 with rfl|rfl|rfl|rfl|rfl<;>exact Ai hw rfl rfl rfl
    ·rcases h5 with rfl|rfl|rfl|rfl|rfl<;>exact Bm rfl rfl rfl rfl (by decide) rfl
    ·rcases h5 with rfl|rfl|rfl|rfl|rfl<;>exact Bm rfl rfl rfl rfl (by decide) rfl
    ·rcases h5 with rfl|rfl|rfl|rfl|rfl<;>exact Ai hq rfl rfl rfl
   ·intro f hf
    obtain ⟨j,hj,hf⟩:=List.mem_flatMap.1 hf
    rw [List.mem_range] at hj
    have hx:¬ L+j < xs.length:=by omega
    have hge:¬ ((L+j:Nat):Int) < (xs.length:Int):=by omega
    have hq:=(hQ (L+j) (by omega)).2.2
    rw [if_neg hx] at hq
    obtain ⟨i,hi⟩:∃ i,i=L+j:=⟨_,rfl⟩
    rw [← hi] at hf hge hq
    have h5:i=0∨i=1∨i=2∨i=3∨i=4:=by omega
    simp only [List.mem_cons,List.not_mem_nil,or_false] at hf
    rcases hf with rfl|rfl
    ·exact Av (c:=false) (a:=(i:Nat)) (b:=xs.length) rfl rfl rfl (by simp only [Aq];rw [decide_eq_false hge]) (by decide) rfl
    ·clear hi
     rcases h5 with rfl|rfl|rfl|rfl|rfl<;>exact Ai hq rfl rfl rfl
  refine ⟨.ins (D1 n) ((List.range (c+1)).map Q),⟨hnmo,by simp,by simp;omega,fun v hv=>?_⟩,?_⟩
  ·obtain ⟨i,hi,rfl⟩:=List.mem_map.1 hv
   rw [List.mem_range] at hi
   have:=hQ i (by omega)
   exact ⟨this.1,this.2.1⟩
  ·have hrow:rowP ((List.range (c+1)).map Q) = .slice 4 ((List.range (c+1)).map fun m=>Den.vP (Q m).1):=by
    unfold rowP
    rw [List.map_map]
    rfl
   show Ev PG _ _ (Cb 4 Bh (D1 n) [] [] (rowP ((List.range (c+1)).map Q)) E7.zero E7.zero)
   rw [hrow]
   have hcc:c=0∨c=1∨c=2∨c=3∨c=4:=by omega
   clear hrow hQ hmk hL
   rcases hcc with rfl|rfl|rfl|rfl|rfl
   all_goals exact Ev.facts (args:=[.atom 0, .atom 1, .atom 2, .atom 3, .atom 4, .atom 5]) Af hnu hkk hf (Nx gm gw gc rfl rfl rfl rfl rfl rfl) rfl
 ·obtain ⟨c,hc,hwc⟩:=wK (Ak (n.tdiv 4)) 6 (by decide) (by decide)
  have hnu:Bc (Ab (J2 kd n mv xs s (A1 wn wl) (A1 cn cl) e.e7 (wX w) (List.replicate 12 (nI 0)) (fun _=>v0))):=Nu gm gw gc (Bg e) (D9 w) rfl
  have hcol:=Ajs c (by omega)
  have hp:=Nv (x:=.upd (D1 n) (Ii.getD c []) e w)
  exact ⟨.upd (D1 n) (Ii.getD c []) e w,⟨hnmo,⟨hcol.1,hcol.2⟩,he,hw⟩,Ev.facts (args:=[.atom 0, .atom 1, .atom 2, .atom 3, .atom 4, .atom 5]) Af hnu (As (List.all_eq_true.1 Au5 c (by rw [List.mem_range];omega)))
   ⟨Ai hwk rfl rfl rfl,Ai hnm rfl rfl rfl,Bm rfl rfl rfl rfl (by decide) rfl,Ai hwc rfl rfl rfl,Ai hse rfl rfl rfl,Ai hwe rfl rfl rfl,trivial⟩ (Nx gm gw gc rfl rfl rfl rfl rfl rfl) hp⟩
 ·have hnu:Bc (Ab (J2 kd n mv xs s (A1 wn wl) (A1 cn cl) E7.zero (wX w) (List.replicate 12 (nI 0)) (fun _=>v0))):=Nu gm gw gc rfl (D9 w) rfl
  exact ⟨.del (D1 n) w,⟨hnmo,hw⟩,Ev.facts (args:=[.atom 0, .atom 1, .atom 2, .atom 3, .atom 4, .atom 5]) Af hnu (As (List.all_eq_true.1 Adw 0 (by decide))) ⟨Ai hwk rfl rfl rfl,Ai hnm rfl rfl rfl,Ai hwe rfl rfl rfl,trivial⟩ (Nx gm gw gc rfl rfl rfl rfl rfl rfl) (Nv (x:=.del (D1 n) w))⟩
 ·have hnu:Bc (Ab (J2 kd n mv xs s (A1 wn wl) (A1 cn cl) E7.zero (wX w) (List.replicate 12 (nI 0)) (fun _=>v0))):=Nu gm gw gc rfl (D9 w) rfl
  exact ⟨.slc (D1 n) w,⟨hnmo,hw⟩,Ev.facts (args:=[.atom 0, .atom 1, .atom 2, .atom 3, .atom 4, .atom 5]) Af hnu (As (List.all_eq_true.1 Adw 1 (by decide))) ⟨Ai hwk rfl rfl rfl,Ai hnm rfl rfl rfl,Ai hwe rfl rfl rfl,trivial⟩ (Nx gm gw gc rfl rfl rfl rfl rfl rfl) (Nv (x:=.slc (D1 n) w))⟩
 ·have hnu:Bc (Ab (J2 kd n mv xs s (A1 wn wl) (A1 cn cl) E7.zero (wX w) (List.replicate 12 (nI 0)) (fun _=>v0))):=Nu gm gw gc rfl (D9 w) rfl
  exact ⟨.cou (D1 n) w,⟨hnmo,hw⟩,Ev.facts (args:=[.atom 0, .atom 1, .atom 2, .atom 3, .atom 4, .atom 5]) Af hnu (As (List.all_eq_true.1 Adw 2 (by decide))) ⟨Ai hwk rfl rfl rfl,Ai hnm rfl rfl rfl,Ai hwe rfl rfl rfl,trivial⟩ (Nx gm gw gc rfl rfl rfl rfl rfl rfl) (Nv (x:=.cou (D1 n) w))⟩
open Go Go.RowKit
open Go Go.RowKit
open Go Go.RowKit
theorem Abf:∀ (vs:List (V4 × List UInt8)),(∀ v∈vs,Ie v.1 v.2∧Hk v.2)→(Ei vs).length≤202*vs.length
 | [],_=>by simp [Ei]
 | [v],h=>by
  have:=(h v (by simp)).1.len
  show v.2.length≤_
  simp;omega
 | v::w::vs,h=>by
  have h1:=(h v (by simp)).1.len
  have ih:=Abf (w::vs) (fun x hx=>h x (by simp at hx ⊢;exact .inr hx))
  have k:(kw ", ").length=2:=by decide
  show (v.2++(kw ", " ++ Ei (w::vs))).length≤_
  rw [List.length_append,List.length_append,k]
  simp only [List.length_cons] at ih ⊢
  omega
theorem q_drop:(kw "drop").length=4:=by decide
theorem O8:(kw "table").length=5:=by decide
theorem O6:(kw "alter").length=5:=by decide
theorem Pv:(kw "add").length=3:=by decide
theorem On:(kw "foreign").length=7:=by decide
theorem Pz:(kw "key").length=3:=by decide
theorem Oj:(kw "references").length=10:=by decide
theorem Ox:(kw "insert").length=6:=by decide
theorem Pn:(kw "into").length=4:=by decide
theorem Ou:(kw "values").length=6:=by decide
theorem O1:(kw "update").length=6:=by decide
theorem Pq:(kw "set").length=3:=by decide
theorem Oy:(kw "delete").length=6:=by decide
theorem Ph:(kw "from").length=4:=by decide
theorem O0:(kw "select").length=6:=by decide
theorem O3:(kw "count").length=5:=by decide
theorem O5:(kw "where").length=5:=by decide
set_option linter.unusedSimpArgs false in
theorem Ahw (b:Tb) (hx:(Sx.cre b).wf):(Sx.cre b).txt.length≤60000:=by
 have m2:(Be 2).length=1:=rfl
 have m3:(Be 3).length=1:=rfl
 have m6:(Be 6).length=1:=rfl
 have m10:(Be 10).length=1:=rfl
 have hW:∀ w,Gx w→(B0 (D3 w)).length≤25700:=fun w h=>by rw [Ht];exact Jf h
 show (B0 b.pcs).length≤_
 rw [Ye hx]
 have h0:=hx.k
 have hu:=hx.u
 have hl:=hx.l
 have h1:=Abk hx b.k
 have h2:=Ab4 hx b.u
 have h3:=Abr hx b.l
 have h4:=Ajd hx
 have h5:=Dv hx.nm
 have l1:(kw "create table ").length=13:=by decide
 have l2:(kw " (").length=2:=by decide
 have l3:(kw "primary key (").length=13:=by decide
 have l4:(kw ")").length=1:=by decide
 unfold Tb.crT Tb.md Tb.hd
 simp only [List.length_append,l1,l2,l3,l4,show (A5 b.key).length=1 from rfl]
 omega
set_option linter.unusedSimpArgs false in
theorem Ao1 (nm:List UInt8) (hx:(Sx.drop nm).wf):(Sx.drop nm).txt.length≤60000:=by
 have m2:(Be 2).length=1:=rfl
 have m3:(Be 3).length=1:=rfl
 have m6:(Be 6).length=1:=rfl
 have m10:(Be 10).length=1:=rfl
 have hW:∀ w,Gx w→(B0 (D3 w)).length≤25700:=fun w h=>by rw [Ht];exact Jf h
 have h1:=Dv hx
 have e0:(Sx.drop nm).txt=B0 [(false,It.w (kw "drop")),(true, .w (kw "table")),(true, .w nm)]:=rfl
 rw [e0]
 simp only [B0,It.txt,sp,List.length_append,List.length_cons,List.length_nil,m2,m3,m6,m10,q_drop,O8,O6,Pv,On,Pz,Oj,Ox,Pn,Ou,O1,Pq,Oy,Ph,O0,O3,O5]
 exact Nat.le_of_not_lt fun hh=>by omega
set_option linter.unusedSimpArgs false in
theorem Api (nm col dst:List UInt8) (hx:(Sx.link nm col dst).wf):(Sx.link nm col dst).txt.length≤60000:=by
 have m2:(Be 2).length=1:=rfl
 have m3:(Be 3).length=1:=rfl
 have m6:(Be 6).length=1:=rfl
 have m10:(Be 10).length=1:=rfl
 have hW:∀ w,Gx w→(B0 (D3 w)).length≤25700:=fun w h=>by rw [Ht];exact Jf h
 have h1:=Dv hx.1
 have h2:=Dv hx.2.1
 have h3:=Dv hx.2.2
 have e0:(Sx.link nm col dst).txt=B0 [(false,It.w (kw "alter")),(true, .w (kw "table")),(true, .w nm),(true, .w (kw "add")),(true, .w (kw "foreign")),(true, .w (kw "key")),(true, .m 2),(false, .w col),(false, .m 3),(true, .w (kw "references")),(true, .w dst)]:=rfl
 rw [e0]
 simp only [B0,It.txt,sp,List.length_append,List.length_cons,List.length_nil,m2,m3,m6,m10,q_drop,O8,O6,Pv,On,Pz,Oj,Ox,Pn,Ou,O1,Pq,Oy,Ph,O0,O3,O5]
 exact Nat.le_of_not_lt fun hh=>by omega
set_option linter.unusedSimpArgs false in
theorem Aqe (nm:List UInt8) (vs:List (V4 × List UInt8)) (hx:(Sx.ins nm vs).wf):(Sx.ins nm vs).txt.length≤60000:=by
 have m2:(Be 2).length=1:=rfl
 have m3:(Be 3).length=1:=rfl
 have m6:(Be 6).length=1:=rfl
 have m10:(Be 10).length=1:=rfl
 have hW:∀ w,Gx w→(B0 (D3 w)).length≤25700:=fun w h=>by rw [Ht];exact Jf h
 have h1:=Dv hx.1
 have hv:=Abf vs hx.2.2.2
 have h5:=hx.2.2.1
 have e0:(Sx.ins nm vs).txt=B0 ([(false,It.w (kw "insert")),(true, .w (kw "into")),(true, .w nm),(true, .w (kw "values")),(true, .m 2)]++(Gt false vs++[(false, .m 3)])):=rfl
 rw [e0]
 rw [F2,F2,Xe vs false hx.2.1]
 simp only [B0,It.txt,sp,List.length_append,List.length_cons,List.length_nil,m2,m3,m6,m10,q_drop,O8,O6,Pv,On,Pz,Oj,Ox,Pn,Ou,O1,Pq,Oy,Ph,O0,O3,O5]
 exact Nat.le_of_not_lt fun hh=>by omega
set_option linter.unusedSimpArgs false in
theorem Aq7 (nm col:List UInt8) (e:Xp) (w:Option Xp) (hx:(Sx.upd nm col e w).wf):(Sx.upd nm col e w).txt.length≤60000:=by
 have m2:(Be 2).length=1:=rfl
 have m3:(Be 3).length=1:=rfl
 have m6:(Be 6).length=1:=rfl
 have m10:(Be 10).length=1:=rfl
 have hW:∀ w,Gx w→(B0 (D3 w)).length≤25700:=fun w h=>by rw [Ht];exact Jf h
 have h1:=Dv hx.1
 have h2:=Dv hx.2.1
 have h3:=hx.2.2.1.len
 have h4:=hW w hx.2.2.2
 have e0:(Sx.upd nm col e w).txt=B0 ([(false,It.w (kw "update")),(true, .w nm),(true, .w (kw "set")),(true, .w col),(true, .m 6),(true, .x e)]++D3 w):=rfl
 rw [e0]
 rw [F2]
 simp only [B0,It.txt,sp,List.length_append,List.length_cons,List.length_nil,m2,m3,m6,m10,q_drop,O8,O6,Pv,On,Pz,Oj,Ox,Pn,Ou,O1,Pq,Oy,Ph,O0,O3,O5]
 exact Nat.le_of_not_lt fun hh=>by omega
set_option linter.unusedSimpArgs false in
theorem Aro (nm:List UInt8) (w:Option Xp) (hx:(Sx.del nm w).wf):(Sx.del nm w).txt.length≤60000:=by
 have m2:(Be 2).length=1:=rfl
 have m3:(Be 3).length=1:=rfl
 have m6:(Be 6).length=1:=rfl
 have m10:(Be 10).length=1:=rfl
 have hW:∀ w,Gx w→(B0 (D3 w)).length≤25700:=fun w h=>by rw [Ht];exact Jf h
 have h1:=Dv hx.1
 have h4:=hW w hx.2
 have e0:(Sx.del nm w).txt=B0 ([(false,It.w (kw "delete")),(true, .w (kw "from")),(true, .w nm)]++D3 w):=rfl
 rw [e0]
 rw [F2]
 simp only [B0,It.txt,sp,List.length_append,List.length_cons,List.length_nil,m2,m3,m6,m10,q_drop,O8,O6,Pv,On,Pz,Oj,Ox,Pn,Ou,O1,Pq,Oy,Ph,O0,O3,O5]
 exact Nat.le_of_not_lt fun hh=>by omega
set_option linter.unusedSimpArgs false in
theorem Arn (nm:List UInt8) (w:Option Xp) (hx:(Sx.slc nm w).wf):(Sx.slc nm w).txt.length≤60000:=by
 have m2:(Be 2).length=1:=rfl
 have m3:(Be 3).length=1:=rfl
 have m6:(Be 6).length=1:=rfl
 have m10:(Be 10).length=1:=rfl
 have hW:∀ w,Gx w→(B0 (D3 w)).length≤25700:=fun w h=>by rw [Ht];exact Jf h
 have h1:=Dv hx.1
 have h4:=hW w hx.2
 have e0:(Sx.slc nm w).txt=B0 ([(false,It.w (kw "select")),(true, .m 10),(true, .w (kw "from")),(true, .w nm)]++D3 w):=rfl
 rw [e0]
 rw [F2]
 simp only [B0,It.txt,sp,List.length_append,List.length_cons,List.length_nil,m2,m3,m6,m10,q_drop,O8,O6,Pv,On,Pz,Oj,Ox,Pn,Ou,O1,Pq,Oy,Ph,O0,O3,O5]
 exact Nat.le_of_not_lt fun hh=>by omega
set_option linter.unusedSimpArgs false in
theorem Arx (nm:List UInt8) (w:Option Xp) (hx:(Sx.cou nm w).wf):(Sx.cou nm w).txt.length≤60000:=by
 have m2:(Be 2).length=1:=rfl
 have m3:(Be 3).length=1:=rfl
 have m6:(Be 6).length=1:=rfl
 have m10:(Be 10).length=1:=rfl
 have hW:∀ w,Gx w→(B0 (D3 w)).length≤25700:=fun w h=>by rw [Ht];exact Jf h
 have h1:=Dv hx.1
 have h4:=hW w hx.2
 have e0:(Sx.cou nm w).txt=B0 ([(false,It.w (kw "select")),(true, .w (kw "count")),(false, .m 2),(false, .m 10),(false, .m 3),(true, .w (kw "from")),(true, .w nm)]++D3 w):=rfl
 rw [e0]
 rw [F2]
 simp only [B0,It.txt,sp,List.length_append,List.length_cons,List.length_nil,m2,m3,m6,m10,q_drop,O8,O6,Pv,On,Pz,Oj,Ox,Pn,Ou,O1,Pq,Oy,Ph,O0,O3,O5]
 exact Nat.le_of_not_lt fun hh=>by omega
theorem Aow {x:Sx} (hx:x.wf):x.txt.length≤60000:=by
 match x,hx with
 | .cre b,hx=>exact Ahw b hx
 | .drop nm,hx=>exact Ao1 nm hx
 | .link nm col dst,hx=>exact Api nm col dst hx
 | .ins nm vs,hx=>exact Aqe nm vs hx
 | .upd nm col e w,hx=>exact Aq7 nm col e w hx
 | .del nm w,hx=>exact Aro nm w hx
 | .slc nm w,hx=>exact Arn nm w hx
 | .cou nm w,hx=>exact Arx nm w hx
open Go Go.RowKit
end Go.Proofs.YtdlkibeljkapeaaGreatDoor.Den
namespace Go.Proofs
open Go.RowKit Go.Shelf
attribute [local go_sem] Oper.semAt_some
namespace SqlSeq
def upto {α:Type} (f:Nat→α) (k:Nat):List α:=(List.range k).map f
theorem upto_succ {α:Type} (f:Nat→α) (k:Nat):upto f (k+1)=upto f k++[f k]:=by simp [upto,List.range_succ]
theorem upto_length {α:Type} (f:Nat→α) (k:Nat):(upto f k).length=k:=by simp [upto]
abbrev V:=Int × Int × Int × ByteArray
def Jl (x:V):Value:=.agg #[.int .i64 x.1, .int .i64 x.2.1, .int .i64 x.2.2.1, .string x.2.2.2]
def Lies (W:World) (b o:Nat) (x:V):Prop:=W.cell? ⟨b,o,none⟩=some (.int .i64 x.1)∧W.cell? ⟨b,o+1,none⟩=some (.int .i64 x.2.1)∧W.cell? ⟨b,o+2,none⟩=some (.int .i64 x.2.2.1)∧W.cell? ⟨b,o+3,none⟩=some (.string x.2.2.2)
theorem Lies.below {n₀:Nat} {A B:World} (h:Below n₀ A B) {b o:Nat} (hb:b < n₀) {x:V} (hl:Lies A b o x):Lies B b o x :=
 ⟨(h.cell (p:=⟨b,_,none⟩) hb).trans hl.1,(h.cell (p:=⟨b,_,none⟩) hb).trans hl.2.1,(h.cell (p:=⟨b,_,none⟩) hb).trans hl.2.2.1,(h.cell (p:=⟨b,_,none⟩) hb).trans hl.2.2.2⟩
set_option maxRecDepth 100000 in
set_option maxHeartbeats 4000000 in
theorem values1_in (F:Fence) (n:Nat) (h64:F.fn 64) (hro:F.round=none) (hn:1≤n) (l Bs n₀ b off len cap:Nat) {α:Type} (val:α→V) (f:Nat→α) (hreach:len*40≤140737488351232) (hb:b < n₀) (J Jx:List α→World→Prop)
  (hY:∀ pre x W,J pre W→pre.length < len→YieldAt F (n - 1) Tryz.prog l #[Jl (val x)] W fun e W' =>
   (e = .returned (.bool true)∧J (pre++[x]) W'∧Below n₀ W W')∨(e = .returned (.bool false)∧Jx (pre++[x]) W'))
  (hJ:∀ pre W o,J pre W→J pre (W.alloc o))
  (W:World) (hn₀:n₀≤W.heap.size) (hBs:W.cell? ⟨Bs,0,none⟩=some (.slice (some ⟨b,off,none⟩) len cap)) (hc:∀ j,j < len→Lies W b (off+j*4) (val (f j))) (h0:J [] W) :
  CallsIn F n Tryz.prog 64 #[.func (.yield l) #[] #[], .pointer (some ⟨Bs,0,none⟩)] W fun e W'=>(∃ v,e = .returned v) ∧
   ((∃ ys,ys=upto f len∧J ys W')∨(∃ pre,(∃ k,k≤len∧pre=upto f k)∧Jx pre W')):=by
 refine callsIn_of_wp Tryz.func64 rfl h64 ?_ hro
 simp only [Tryz.ntmps64,List.size_toArray,List.length_cons,List.length_nil,Nat.reduceAdd,Nat.reduceSub,Array.replicate_succ,Array.replicate_zero,List.push_toArray,List.append_toArray,List.nil_append,List.cons_append]
 gi_wp2
 gi_loopw [7] (fun i wr=>∃ k:Nat,k≤len∧i = .int .i64 k∧J (upto f k) wr∧Below n₀ W wr)
  (fun i _=>len - (intOf i).toNat)
 case atStart=>exact ⟨0,Nat.zero_le _,rfl,h0,Below.refl _ _⟩
 case round =>
  obtain ⟨k,hk,rfl,hJs,hnx⟩:=hrel
  by_cases hlt:k < len
  ·obtain ⟨h1,h2,h3,h4⟩:=(hc k hlt).below hnx hb
   obtain ⟨fn,tmps,assign,body,hy,hR⟩:=hY _ (f k) _ (hJ _ wr (.cells #[.int .i64 (val (f k)).1, .int .i64 (val (f k)).2.1, .int .i64 (val (f k)).2.2.1, .string (val (f k)).2.2.2] 28) hJs) (by rw [upto_length];exact hlt)
   unfold Jl at hy
   gi_wp2
   refine hR.mono ?_
   rintro e W3 (⟨rfl,hJ3,hk3⟩|⟨rfl,hJx3⟩)
   ·gi_wp2
    go_roundw
    case rel=>exact ⟨k+1,by omega,by simp,by rw [upto_succ];exact hJ3,(hnx.alloc (by have:=hnx.size;omega) _).trans hk3⟩
    case measure=>simp [intOf];omega
   ·gi_wp2
    refine bodyPost_ret (results_none rfl _ _ _) rfl ?_
    exact ⟨⟨_,rfl⟩, .inr ⟨_,⟨k+1,by omega,(upto_succ _ _).symm⟩,hJx3⟩⟩
  ·obtain rfl:k=len:=by omega
   gi_wp2
   go_end0
   exact ⟨⟨_,rfl⟩, .inl ⟨_,rfl,hJs⟩⟩
theorem Lies.own {B:Nat} (b o:Nat) (x:V):OwnFrom B (fun (_:Unit) W=>Lies W b o x):=fun _ _ _ _ hs hg hr =>
 ⟨cell_kept hs.1 hg fun r e=>(hr r e).2,cell_kept hs.2.1 hg fun r e=>(hr r e).2,cell_kept hs.2.2.1 hg fun r e=>(hr r e).2,cell_kept hs.2.2.2 hg fun r e=>(hr r e).2⟩
def stepS (o s:ByteArray):ByteArray:=(if o=⟨#[]⟩ then o else o++⟨#[44,32]⟩)++s
def joinS (l:List ByteArray):ByteArray:=l.foldl stepS ⟨#[]⟩
theorem Agm (l:List ByteArray) (s:ByteArray):joinS (l++[s])=stepS (joinS l) s:=by simp [joinS]
theorem values_stops (n:Nat) (hn:1≤n) (Bs n₀ b off len cap:Nat) {α:Type} (val:α→V) (f:Nat→α) (hreach:len*40≤140737488351232) (w:World) (hb:b < n₀) (hn₀:n₀≤w.heap.size) (hBs:Bs < w.heap.size)
  (hBc:w.cell? ⟨Bs,0,none⟩=some (.slice (some ⟨b,off,none⟩) len cap)) (hc:∀ j,j < len→Lies w b (off+j*4) (val (f j))) :
  SeqStopsK Fence.wide n Tryz.prog 64 #[.pointer (some ⟨Bs,0,none⟩)] (fun x:α=>#[Jl (val x)]) (Below n₀) (fun ys=>ys=upto f len) (fun _=>True) len w:=fun l J Jx W hW hJ _ hY h0 =>
 (values1_in Fence.wide n trivial rfl hn l Bs n₀ b off len cap val f hreach hb J Jx hY (fun pre A o hj=>hJ pre A _ none hj (World.grownBy_alloc A o none) (fun r e=>by cases e)) W (Nat.le_trans hn₀ hW.size) ((hW.cell (p:=⟨Bs,0,none⟩) hBs).trans hBc) (fun j hj=>(hc j hj).below (hW.mono hn₀) hb) h0).mono
  (fun e W' h=>⟨h.1,h.2.imp id fun ⟨pre,_,h2⟩=>⟨pre,trivial,h2⟩⟩)
theorem Arm (W:World) (x:V) (t:TypeId):Lies (W.alloc (.cells #[.int .i64 x.1, .int .i64 x.2.1, .int .i64 x.2.2.1, .string x.2.2.2] t)) W.heap.size 0 x:=by
 unfold Lies World.cell?
 rw [World.alloc_heap_new]
 exact ⟨rfl,rfl,rfl,rfl⟩
theorem Agl (l:List ByteArray) (h:∀ s∈l,s.size≤60000):(joinS l).size≤60002*l.length:=by
 have aux:∀ (l:List ByteArray) (a:ByteArray),(∀ s∈l,s.size≤60000)→(l.foldl stepS a).size≤a.size+60002*l.length:=by
  intro l
  induction l with
  | nil=>intro a _;simp
  | cons s l ih =>
   intro a h
   have h1:=ih (stepS a s) (fun x hx=>h x (by simp [hx]))
   have h2:=h s (by simp)
   have h3:(stepS a s).size≤a.size+2+s.size:=by
    unfold stepS
    rw [ByteArray.size_append]
    split
    ·omega
    ·rw [ByteArray.size_append];exact Nat.le_refl _
   simp only [List.foldl_cons,List.length_cons]
   omega
 have:=aux l ⟨#[]⟩ h
 have e:(⟨#[]⟩:ByteArray).size=0:=rfl
 unfold joinS
 omega
theorem Aq3 {W:World} {b B o:Nat} {x:V} (h:Lies W b o x) (hne:b≠B) (v:Value):Lies (W.setCell ⟨B,0,none⟩ v) b o x :=
 have e:=Below.heap_setCell W ⟨B,0,none⟩ v b hne
 ⟨(World.cell?_of_block e).trans h.1,(World.cell?_of_block e).trans h.2.1,(World.cell?_of_block e).trans h.2.2.1,(World.cell?_of_block e).trans h.2.2.2⟩
set_option maxRecDepth 100000 in
set_option maxHeartbeats 4000000 in
theorem Ai4 (n:Nat) (hn:6≤n) (Bs b off len cap:Nat) {α:Type} (val:α→V) (f:Nat→α) (L:α→ByteArray) (hlen:len≤1000) (w:World) (hb:b < w.heap.size) (hBs:Bs < w.heap.size)
  (hBc:w.cell? ⟨Bs,0,none⟩=some (.slice (some ⟨b,off,none⟩) len cap)) (hc:∀ j,j < len→Lies w b (off+j*4) (val (f j)))
  (hM:∀ x,(L x).size≤60000) (hL:∀ x W,Below w.heap.size w W→Calls Tryz.prog 23 #[Jl (val x)] W fun e W'=>e = .returned (.string (L x))∧Below W.heap.size W W') :
  CallsIn Fence.wide n Tryz.prog 37 #[.agg #[.func (.func 23) #[] #[]], .func (.func 64) #[] #[.pointer (some ⟨Bs,0,none⟩)]] w fun e W'=>e = .returned (.string (joinS ((upto f len).map L)))∧Below w.heap.size w W':=by
 have h1:1≤n:=by omega
 have hreach:len*40≤140737488351232:=by omega
 refine callsIn_of_wp_marks Tryz.func37 rfl trivial ?_ rfl
 simp only [Tryz.ntmps37,List.size_toArray,List.length_cons,List.length_nil,Nat.reduceAdd,Nat.reduceSub,Array.replicate_succ,Array.replicate_zero,List.push_toArray,List.append_toArray,List.nil_append,List.cons_append]
 gi_wp2
 have b2:=(Boxed.new w 76 (.func (.func 23) #[] #[])).alloc (.cells #[.string ⟨#[]⟩] 9)
 have b5:=Boxed.new (w.alloc (.cells #[.func (.func 23) #[] #[]] 76)) 9 (.string ⟨#[]⟩)
 simp only [World.size_alloc] at b5
 have hB0:Below w.heap.size w ((w.alloc (.cells #[.func (.func 23) #[] #[]] 76)).alloc (.cells #[.string ⟨#[]⟩] 9)):=((Below.refl _ w).alloc (Nat.le_refl _) _).alloc (by simp) _
 have hsz:((w.alloc (.cells #[.func (.func 23) #[] #[]] 76)).alloc (.cells #[.string ⟨#[]⟩] 9)).heap.size=w.heap.size+2:=by simp
 obtain ⟨W0,hW0⟩:∃ W0,(w.alloc (.cells #[.func (.func 23) #[] #[]] 76)).alloc (.cells #[.string ⟨#[]⟩] 9)=W0:=⟨_,rfl⟩
 rw [hW0] at b2 b5 hB0 hsz ⊢
 clear hW0
 refine wpIn_rangeFunc_ownH rfl h1 (gf:=64) (lb:=#[.pointer (some ⟨Bs,0,none⟩)]) rfl trivial (enters_of Tryz.func64 (by kernel_rfl) rfl)
  (values_stops (n - 1) (by omega) Bs w.heap.size b off len cap val f hreach W0 hb (by omega) (by omega) ((hB0.cell (p:=⟨Bs,0,none⟩) hBs).trans hBc) (fun j hj=>(hc j hj).below hB0 hb)) belowK_t (belowK_b (by omega)) (Below.refl _ _) (fun _=>rfl)
  (fun pre W=>(Boxed W (w.heap.size+1) 9 (.string (joinS (pre.map L)))∧Boxed W w.heap.size 76 (.func (.func 23) #[] #[]))∧Below w.heap.size w W)
  (fun _ _ _=>False)
  (OwnFrom.and (OwnFrom.and (Own.from (boxed_own _ _ _) _) (Own.from (boxed_own _ _ _) _)) (ownFrom_below (Nat.le_refl _) (by omega)))
  (fun _ _ _ _ _ hs _ _=>hs)
  ⟨⟨b5,b2⟩,hB0⟩
  (fun x a' W=>∃ Bx,w.heap.size+1 < Bx∧Lies W Bx 0 (val x)∧a'={ tmps:=#[.agg #[.func (.func 23) #[] #[]], .func (.func 64) #[] #[.pointer (some ⟨Bs,0,none⟩)], .pointer (some ⟨w.heap.size,0,none⟩),undef, .string ⟨#[]⟩, .pointer (some ⟨w.heap.size+1,0,none⟩), .pointer (some ⟨Bx,0,none⟩), .func (.func 64) #[] #[.pointer (some ⟨Bs,0,none⟩)],Jl (val x),undef,undef,undef,undef,undef,undef,undef,undef,undef,undef,undef],defers:=[] })
  (fun x a' _ X Y row hs hg hr=>by obtain ⟨Bx,h1,h2,h3⟩:=hs;exact ⟨Bx,h1,Lies.own Bx 0 (val x) () X Y row h2 hg hr,h3⟩)
  ?assign ?body ?done ?stop
 case assign =>
  rintro l pre x W K ⟨⟨bS1,bB1⟩,hB1⟩ hK
  unfold Jl at hK ⊢
  gi_wp2
  exact hK _ _ ((KeepsOthers.alloc _ _).from _) ((Below.refl _ W).alloc hB1.size _) ⟨⟨bS1.alloc _,bB1.alloc _⟩,hB1.alloc hB1.size _⟩ ⟨W.heap.size,bS1.lt,Arm W (val x) 28,rfl⟩
 case body =>
  rintro l pre x a' W hl ⟨r,hr⟩ ⟨⟨bS1,bB1⟩,hB1⟩ ⟨Bx,hBx,⟨d1,d2,d3,d4⟩,rfl⟩ hlt
  have hmx:Tryz.prog.follows .mixedOrders=true:=by kernel_rfl
  have c5:=bS1.cell
  have f5:=bS1.frozen
  have c2:=bB1.cell
  have hj:joinS ((pre++[x]).map L)=stepS (joinS (pre.map L)) (L x):=by rw [List.map_append,List.map_cons,List.map_nil,Agm]
  obtain ⟨o,ho⟩:∃ o,o=joinS (pre.map L):=⟨_,rfl⟩
  rw [← ho] at c5 bS1 hj
  have hO:o.size+2≤100000000:=by
   have:=Agl (pre.map L) (fun s hs=>by obtain ⟨y,_,rfl⟩:=List.mem_map.1 hs;exact hM y)
   rw [← ho,List.length_map] at this
   omega
  clear ho
  unfold Jl
  have hcall:=fun W' (h:Below w.heap.size w W')=>CallsIn.inRound (n:=n - 1 - 1 - 1) l (callsIn_wide.2 (hL x W' h))
  unfold Jl at hcall
  by_cases he:o=⟨#[]⟩
  ·subst he
   have hM1:=hM x
   have hsz1:(⟨#[]⟩:ByteArray).size+(L x).size≤maxLen:=by show 0+_≤_;unfold maxLen;omega
   have hsz2:(L x).size≤maxLen:=by unfold maxLen;omega
   have hsz3:¬ maxLen < (L x).size:=by unfold maxLen;omega
   have hst:stepS ⟨#[]⟩ (L x)=⟨#[]⟩++L x:=by unfold stepS;rw [if_pos rfl]
   rw [hst] at hj
   gi_wp2
   gi_region_with_o (refine ⟨trivial,fun h=>(by cases h),?_⟩;refine (hcall W.drew (hB1.drew)).mono ?_;rintro e w' ⟨rfl,hbel⟩;have b5':Boxed w' (w.heap.size+1) 9 (.string ⟨#[]⟩):=(hbel.block _ bS1.lt).trans bS1;have b2':Boxed w' w.heap.size 76 (.func (.func 23) #[] #[]):=(hbel.block _ bB1.lt).trans bB1;have c5':=b5'.cell;have f5':=b5'.frozen;have c2':=b2'.cell;have hk1:KeepsOthers W w':=⟨hbel.size,fun k o hk _=>(hbel.block k (Array.getElem?_eq_some_iff.1 hk).1).trans hk⟩;have hb1:Below w.heap.size W w':=((Below.refl _ W).drew).trans (hbel.mono hB1.size))
   all_goals gi_wp2
   all_goals (try go_bits)
   all_goals exact ⟨(hk1.trans (KeepsOthers.setCell _ _ _)).from _,hb1.setCell (p:=⟨w.heap.size+1,0,none⟩) (by simp) _,⟨⟨by rw [hj];exact b5'.set _,b2'.other (by omega) _⟩,(hB1.trans hb1).setCell (p:=⟨w.heap.size+1,0,none⟩) (by simp) _⟩⟩
  ·have hM1:=hM x
   have hst:stepS o (L x)=(o++⟨#[44,32]⟩)++L x:=by unfold stepS;rw [if_neg he]
   rw [hst] at hj
   have e2:¬ o.toList=[]:=fun h=>he (by
    rw [ByteArray.toList_eq] at h
    obtain ⟨⟨d⟩⟩:=o
    have h:d=[]:=h
    rw [h])
   have e1:o.toList.isEmpty=false:=by
    cases hq:o.toList with
    | nil=>exact absurd hq e2
    | cons _ _=>rfl
   have e3:(!o.toList.isEmpty)=true:=by rw [e1];rfl
   have b51:=bS1.set (.string (o++⟨#[44,32]⟩))
   have b21:=bB1.other (B':=w.heap.size+1) (by omega) (.string (o++⟨#[44,32]⟩))
   obtain ⟨g1,g2,g3,g4⟩:=Aq3 (B:=w.heap.size+1) ⟨d1,d2,d3,d4⟩ (by omega) (.string (o++⟨#[44,32]⟩))
   have hW1b:Below w.heap.size W (W.setCell ⟨w.heap.size+1,0,none⟩ (.string (o++⟨#[44,32]⟩))):=(Below.refl _ W).setCell (p:=⟨w.heap.size+1,0,none⟩) (by simp) _
   have hW1k:KeepsOthers W (W.setCell ⟨w.heap.size+1,0,none⟩ (.string (o++⟨#[44,32]⟩))):=KeepsOthers.setCell _ _ _
   have hos:(o++⟨#[44,32]⟩:ByteArray).size≤100000000:=by rw [ByteArray.size_append];exact hO
   have hsz0:o.size+(⟨#[44,32]⟩:ByteArray).size≤maxLen:=by
    have:o.size+2≤100000000:=hO
    show o.size+2≤maxLen
    unfold maxLen;omega
   gi_wp2
   have hB2:=hB1.trans hW1b
   generalize hW1:W.setCell ⟨w.heap.size+1,0,none⟩ (.string (o++⟨#[44,32]⟩))=W1 at *
   have hos2:o.size+2≤100000000:=hO
   generalize ho2:(o++⟨#[44,32]⟩:ByteArray)=o2 at *
   have c51:=b51.cell
   have f51:=b51.frozen
   have c21:=b21.cell
   have hsz1:o2.size+(L x).size≤maxLen:=by unfold maxLen;omega
   gi_region_with_o (refine ⟨trivial,fun h=>(by cases h),?_⟩;refine (hcall W1.drew (hB2.drew)).mono ?_;rintro e w' ⟨rfl,hbel⟩;have b5':Boxed w' (w.heap.size+1) 9 (.string o2):=(hbel.block _ b51.lt).trans b51;have b2':Boxed w' w.heap.size 76 (.func (.func 23) #[] #[]):=(hbel.block _ b21.lt).trans b21;have c5':=b5'.cell;have f5':=b5'.frozen;have c2':=b2'.cell;have hk1:KeepsOthers W w':=hW1k.trans ⟨hbel.size,fun k o hk _=>(hbel.block k (Array.getElem?_eq_some_iff.1 hk).1).trans hk⟩;have hb1:Below w.heap.size W w':=hW1b.trans (((Below.refl _ W1).drew).trans (hbel.mono hB2.size)))
   all_goals gi_wp2
   all_goals (try go_bits)
   all_goals exact ⟨(hk1.trans (KeepsOthers.setCell _ _ _)).from _,hb1.setCell (p:=⟨w.heap.size+1,0,none⟩) (by simp) _,⟨⟨by rw [hj];exact b5'.set _,b2'.other (by omega) _⟩,(hB1.trans hb1).setCell (p:=⟨w.heap.size+1,0,none⟩) (by simp) _⟩⟩
 case done =>
  rintro D zs W hD rfl ⟨⟨bS1,bB1⟩,hB1⟩ hK
  have cS:=bS1.cell
  gi_wp2
  refine ⟨by simp, .inl ⟨_,_,rfl,run_takeDeferred hK,?_⟩⟩
  exact ⟨_,results_tmp rfl _ _ _,rfl,hB1.trans (belowK_b (w:=w) (Nat.le_refl _) W D _ _ (by omega) hK rfl rfl)⟩
 case stop =>
  rintro D c pre W _ _ h _
  exact h.elim
end SqlSeq
end Go.Proofs
namespace Go.Proofs
open Go.RowKit Go.Shelf
attribute [local go_sem] Oper.semAt_some
namespace SqlSeq
set_option maxRecDepth 100000 in
theorem Aok (s:ByteArray) (W:World):Calls Tryz.prog 34 #[.string s] W fun e W'=>e = .returned (.string s)∧Below W.heap.size W W':=by
 refine (callsIn_wide (n:=1)).1 ?_
 refine callsIn_of_wp Tryz.func34 rfl trivial ?_ rfl
 simp only [Tryz.ntmps34,List.size_toArray,List.length_cons,List.length_nil,Nat.reduceAdd,Nat.reduceSub,Array.replicate_succ,Array.replicate_zero,List.push_toArray,List.append_toArray,List.nil_append,List.cons_append]
 gi_wp2
 go_ret
 exact ⟨rfl,Below.refl _ _⟩
set_option maxRecDepth 100000 in
set_option maxHeartbeats 4000000 in
theorem Ack (n:Nat) (hn:6≤n) (lb:Array Value) (len:Nat) {α:Type} (L:α→ByteArray) (xs:List α) (Sp:List α→Prop) (hlen:len≤1000) (w:World) (hM:∀ x,(L x).size≤60000)
  (hseq:∀ W0,Below w.heap.size w W0→SeqStopsK Fence.wide (n - 1) Tryz.prog 61 lb (fun x:α=>#[.string (L x)]) (Below w.heap.size) (fun ys=>ys=xs) Sp len W0) :
  CallsIn Fence.wide n Tryz.prog 35 #[.agg #[.func (.func 34) #[] #[]], .func (.func 61) #[] lb] w fun e W'=>e = .returned (.string (joinS (xs.map L)))∧Below w.heap.size w W':=by
 have h1:1≤n:=by omega
 refine callsIn_of_wp_marks Tryz.func35 rfl trivial ?_ rfl
 simp only [Tryz.ntmps35,List.size_toArray,List.length_cons,List.length_nil,Nat.reduceAdd,Nat.reduceSub,Array.replicate_succ,Array.replicate_zero,List.push_toArray,List.append_toArray,List.nil_append,List.cons_append]
 gi_wp2
 have b2:=(Boxed.new w 70 (.func (.func 34) #[] #[])).alloc (.cells #[.string ⟨#[]⟩] 9)
 have b5:=Boxed.new (w.alloc (.cells #[.func (.func 34) #[] #[]] 70)) 9 (.string ⟨#[]⟩)
 simp only [World.size_alloc] at b5
 have hB0:Below w.heap.size w ((w.alloc (.cells #[.func (.func 34) #[] #[]] 70)).alloc (.cells #[.string ⟨#[]⟩] 9)):=((Below.refl _ w).alloc (Nat.le_refl _) _).alloc (by simp) _
 have hsz:((w.alloc (.cells #[.func (.func 34) #[] #[]] 70)).alloc (.cells #[.string ⟨#[]⟩] 9)).heap.size=w.heap.size+2:=by simp
 obtain ⟨W0,hW0⟩:∃ W0,(w.alloc (.cells #[.func (.func 34) #[] #[]] 70)).alloc (.cells #[.string ⟨#[]⟩] 9)=W0:=⟨_,rfl⟩
 rw [hW0] at b2 b5 hB0 hsz ⊢
 clear hW0
 refine wpIn_rangeFunc_ownH rfl h1 (gf:=61) (lb:=lb) rfl trivial (enters_of Tryz.func61 (by kernel_rfl) rfl)
  (hseq W0 hB0) belowK_t (belowK_b (by omega)) (Below.refl _ _) (fun _=>rfl)
  (fun pre W=>(Boxed W (w.heap.size+1) 9 (.string (joinS (pre.map L)))∧Boxed W w.heap.size 70 (.func (.func 34) #[] #[]))∧Below w.heap.size w W)
  (fun _ _ _=>False)
  (OwnFrom.and (OwnFrom.and (Own.from (boxed_own _ _ _) _) (Own.from (boxed_own _ _ _) _)) (ownFrom_below (Nat.le_refl _) (by omega)))
  (fun _ _ _ _ _ hs _ _=>hs)
  ⟨⟨b5,b2⟩,hB0⟩
  (fun x a' _=>a'={ tmps:=#[.agg #[.func (.func 34) #[] #[]], .func (.func 61) #[] lb, .pointer (some ⟨w.heap.size,0,none⟩),undef, .string ⟨#[]⟩, .pointer (some ⟨w.heap.size+1,0,none⟩), .string (L x), .func (.func 61) #[] lb, .string (L x),undef,undef,undef,undef,undef,undef,undef,undef,undef,undef,undef],defers:=[] })
  (fun _ _ _ _ _ _ hs _ _=>hs)
  ?assign ?body ?done ?stop
 case assign =>
  rintro l pre x W K ⟨⟨bS1,bB1⟩,hB1⟩ hK
  gi_wp2
  exact hK _ _ (KeepsFrom.refl _ _) (Below.refl _ _) ⟨⟨bS1,bB1⟩,hB1⟩ rfl
 case body =>
  rintro l pre x a' W hl ⟨r,hr⟩ ⟨⟨bS1,bB1⟩,hB1⟩ rfl hlt
  have hmx:Tryz.prog.follows .mixedOrders=true:=by kernel_rfl
  have c5:=bS1.cell
  have f5:=bS1.frozen
  have c2:=bB1.cell
  have hj:joinS ((pre++[x]).map L)=stepS (joinS (pre.map L)) (L x):=by rw [List.map_append,List.map_cons,List.map_nil,Agm]
  obtain ⟨o,ho⟩:∃ o,o=joinS (pre.map L):=⟨_,rfl⟩
  rw [← ho] at c5 bS1 hj
  have hO:o.size+2≤100000000:=by
   have:=Agl (pre.map L) (fun s hs=>by obtain ⟨y,_,rfl⟩:=List.mem_map.1 hs;exact hM y)
   rw [← ho,List.length_map] at this
   omega
  clear ho
  have hcall:=fun W' (_:Below w.heap.size w W')=>CallsIn.inRound (n:=n - 1 - 1 - 1) l (callsIn_wide.2 (Aok (L x) W'))
  by_cases he:o=⟨#[]⟩
  ·subst he
   have hM1:=hM x
   have hsz1:(⟨#[]⟩:ByteArray).size+(L x).size≤maxLen:=by show 0+_≤_;unfold maxLen;omega
   have hsz2:(L x).size≤maxLen:=by unfold maxLen;omega
   have hsz3:¬ maxLen < (L x).size:=by unfold maxLen;omega
   have hst:stepS ⟨#[]⟩ (L x)=⟨#[]⟩++L x:=by unfold stepS;rw [if_pos rfl]
   rw [hst] at hj
   gi_wp2
   gi_region_with_o (refine ⟨trivial,fun h=>(by cases h),?_⟩;refine (hcall W.drew (hB1.drew)).mono ?_;rintro e w' ⟨rfl,hbel⟩;have b5':Boxed w' (w.heap.size+1) 9 (.string ⟨#[]⟩):=(hbel.block _ bS1.lt).trans bS1;have b2':Boxed w' w.heap.size 70 (.func (.func 34) #[] #[]):=(hbel.block _ bB1.lt).trans bB1;have c5':=b5'.cell;have f5':=b5'.frozen;have c2':=b2'.cell;have hk1:KeepsOthers W w':=⟨hbel.size,fun k o hk _=>(hbel.block k (Array.getElem?_eq_some_iff.1 hk).1).trans hk⟩;have hb1:Below w.heap.size W w':=((Below.refl _ W).drew).trans (hbel.mono hB1.size))
   all_goals gi_wp2
   all_goals (try go_bits)
   all_goals exact ⟨(hk1.trans (KeepsOthers.setCell _ _ _)).from _,hb1.setCell (p:=⟨w.heap.size+1,0,none⟩) (by simp) _,⟨⟨by rw [hj];exact b5'.set _,b2'.other (by omega) _⟩,(hB1.trans hb1).setCell (p:=⟨w.heap.size+1,0,none⟩) (by simp) _⟩⟩
  ·have hM1:=hM x
   have hst:stepS o (L x)=(o++⟨#[44,32]⟩)++L x:=by unfold stepS;rw [if_neg he]
   rw [hst] at hj
   have e2:¬ o.toList=[]:=fun h=>he (by
    rw [ByteArray.toList_eq] at h
    obtain ⟨⟨d⟩⟩:=o
    have h:d=[]:=h
    rw [h])
   have e1:o.toList.isEmpty=false:=by
    cases hq:o.toList with
    | nil=>exact absurd hq e2
    | cons _ _=>rfl
   have e3:(!o.toList.isEmpty)=true:=by rw [e1];rfl
   have b51:=bS1.set (.string (o++⟨#[44,32]⟩))
   have b21:=bB1.other (B':=w.heap.size+1) (by omega) (.string (o++⟨#[44,32]⟩))
   have hW1b:Below w.heap.size W (W.setCell ⟨w.heap.size+1,0,none⟩ (.string (o++⟨#[44,32]⟩))):=(Below.refl _ W).setCell (p:=⟨w.heap.size+1,0,none⟩) (by simp) _
   have hW1k:KeepsOthers W (W.setCell ⟨w.heap.size+1,0,none⟩ (.string (o++⟨#[44,32]⟩))):=KeepsOthers.setCell _ _ _
   have hos:(o++⟨#[44,32]⟩:ByteArray).size≤100000000:=by rw [ByteArray.size_append];exact hO
   have hsz0:o.size+(⟨#[44,32]⟩:ByteArray).size≤maxLen:=by
    have:o.size+2≤100000000:=hO
    show o.size+2≤maxLen
    unfold maxLen;omega
   gi_wp2
   have hB2:=hB1.trans hW1b
   generalize hW1:W.setCell ⟨w.heap.size+1,0,none⟩ (.string (o++⟨#[44,32]⟩))=W1 at *
   have hos2:o.size+2≤100000000:=hO
   generalize ho2:(o++⟨#[44,32]⟩:ByteArray)=o2 at *
   have c51:=b51.cell
   have f51:=b51.frozen
   have c21:=b21.cell
   have hsz1:o2.size+(L x).size≤maxLen:=by unfold maxLen;omega
   gi_region_with_o (refine ⟨trivial,fun h=>(by cases h),?_⟩;refine (hcall W1.drew (hB2.drew)).mono ?_;rintro e w' ⟨rfl,hbel⟩;have b5':Boxed w' (w.heap.size+1) 9 (.string o2):=(hbel.block _ b51.lt).trans b51;have b2':Boxed w' w.heap.size 70 (.func (.func 34) #[] #[]):=(hbel.block _ b21.lt).trans b21;have c5':=b5'.cell;have f5':=b5'.frozen;have c2':=b2'.cell;have hk1:KeepsOthers W w':=hW1k.trans ⟨hbel.size,fun k o hk _=>(hbel.block k (Array.getElem?_eq_some_iff.1 hk).1).trans hk⟩;have hb1:Below w.heap.size W w':=hW1b.trans (((Below.refl _ W1).drew).trans (hbel.mono hB2.size)))
   all_goals gi_wp2
   all_goals (try go_bits)
   all_goals exact ⟨(hk1.trans (KeepsOthers.setCell _ _ _)).from _,hb1.setCell (p:=⟨w.heap.size+1,0,none⟩) (by simp) _,⟨⟨by rw [hj];exact b5'.set _,b2'.other (by omega) _⟩,(hB1.trans hb1).setCell (p:=⟨w.heap.size+1,0,none⟩) (by simp) _⟩⟩
 case done =>
  rintro D zs W hD rfl ⟨⟨bS1,bB1⟩,hB1⟩ hK
  have cS:=bS1.cell
  gi_wp2
  refine ⟨by simp, .inl ⟨_,_,rfl,run_takeDeferred hK,?_⟩⟩
  exact ⟨_,results_tmp rfl _ _ _,rfl,hB1.trans (belowK_b (w:=w) (Nat.le_refl _) W D _ _ (by omega) hK rfl rfl)⟩
 case stop =>
  rintro D c pre W _ _ h _
  exact h.elim
end SqlSeq
end Go.Proofs
namespace Go.Proofs.YtdlkibeljkapeaaGreatDoor.Den
open Go Go.RowKit
open Go.Proofs.SqlSeq (V Jl upto joinS Ai4)
theorem EvS.ofCalls {P:Program} {g:FuncId} {args:List PV} {s:List Aa} {r:PV} (hfn:∃ fn,P.funcs[g]? = some fn∧(fn.name == "runtime.NumGoroutine")=false∧fn.body.isSome=true)
  (h:∀ X w (vs:Array Value),vs.size=args.length→(∀ (j:Nat) p,args[j]? = some p→R X p (vs.getD j Go.undef))→Inv X w (fun i=>s[i]?)→Calls P g vs w fun e w'=>(∃ v,e = .returned v∧R X r v)∧Below w.heap.size w w'):EvS P g args s r s:=by
 refine ⟨Nat.le_refl _,hfn,fun X w vs h1 h2 h3=>(h X w vs h1 h2 h3).mono ?_⟩
 rintro e w' ⟨⟨v,he,hv⟩,bel⟩
 refine ⟨v,X,he,hv,⟨Ag.Le.refl X,⟨fun b o u hu=>?_,h3.ok.2.keep (fun _ _ _ h=>h) (fun g _ hg=>bel.block g hg)⟩,bel.size,bel.os,bel.tape,bel.output,fun k hk _=>bel.block k hk,fun b o v hv=>.inl hv,fun _ h=>absurd trivial h,fun id _=>(h3.res id).keep (Ag.Le.refl X) rfl rfl (fun b ho=>bel.block b ((h3.res id).lt ho)) (fun _ _ _ _ h=>h),fun _ _ _ ho=>.inl ho,fun i j b _ _ hi hj=>h3.dis i j b hi hj⟩⟩
 have hc:=h3.ok.1 b o u hu
 have hb:b < w.heap.size:=by
  unfold World.cell? at hc
  split at hc
  ·rename_i hq;exact (Array.getElem?_eq_some_iff.1 hq).1
  ·cases hc
 exact (bel.cell (p:=⟨b,o,none⟩) hb).trans hc
theorem cell_lt {w:World} {b o:Nat} {v:Value} (hc:w.cell? ⟨b,o,none⟩=some v):b < w.heap.size:=by
 unfold World.cell? at hc
 split at hc
 ·rename_i hq;exact (Array.getElem?_eq_some_iff.1 hq).1
 ·cases hc
theorem Xf {X:Ag} {w w':World} (h:X.Ok w) (bel:Below w.heap.size w w'):X.Ok w' :=
 ⟨fun b o u hu=>(bel.cell (p:=⟨b,o,none⟩) (cell_lt (h.1 b o u hu))).trans (h.1 b o u hu),h.2.keep (fun _ _ _ h=>h) (fun g _ hg=>bel.block g hg)⟩
theorem Agg {X X':Ag} {w w':World} {s s':Nat→Option Aa} (p:D6 X X' w w' s s' (fun _=>False)):Below w.heap.size w w' :=
 ⟨p.os,p.tape,p.output,p.grow,fun k hk=>p.keep k hk (fun _ h=>h.elim)⟩
def Vl (v:V4):V:=(v.1,v.2.1,v.2.2.1,⟨v.2.2.2.toArray⟩)
theorem Azr (X:Ag) (v:V4):R X (Den.vP v) (Jl (Vl v)):=by
 refine .agg _ _ rfl (fun j c hc=>?_) (fun u hu=>?_)
 ·match j,hc with
  | 0,hc=>cases hc;exact .int _ _
  | 1,hc=>cases hc;exact .int _ _
  | 2,hc=>cases hc;exact .int _ _
  | 3,hc=>cases hc;exact .str ⟨v.2.2.2.toArray⟩
 ·simp only [List.mem_toArray,List.mem_cons,List.not_mem_nil,or_false] at hu
  rcases hu with rfl|rfl|rfl|rfl<;>rfl
theorem Avm {v:V4} {t:List UInt8} (h:Ev PG G2 [Den.vP v] (.str t)) {X:Ag} {w:World} (hX:X.Ok w):Calls PG G2 #[Jl (Vl v)] w fun e w'=>e = .returned (.string ⟨t.toArray⟩)∧Below w.heap.size w w':=by
 refine (h.2 X w #[Jl (Vl v)] rfl (fun j p hp=>?_) hX).mono ?_
 ·match j,hp with
  | 0,hp=>cases hp;exact Azr X v
 ·rintro e w' ⟨u,X',rfl,hr,hp⟩
  rw [hr.str_inv]
  exact ⟨rfl,Agg hp⟩
def joinL (l:List (List UInt8)):List UInt8:=(joinS (l.map fun t=>⟨t.toArray⟩)).data.toList
theorem Aqh {vs:List (V4 × List UInt8)} (h0:vs≠[]) (h5:vs.length≤1000) (hv:∀ v∈vs,Ev PG G2 [Den.vP v.1] (.str v.2)∧v.2.length≤60000) :
  EvS PG Aeu [.agg [.fn G2 [] []], .fn Aez [] [.box 0 0]] [.box [rowP vs]] (.str (joinL (vs.map (·.2)))) [.box [rowP vs]]:=by
 refine EvS.ofCalls (N1 _ (by kernel_rfl)) fun X w us a1 a2 a3=>?_
 obtain ⟨u1,u2,rfl,r1,r2⟩:=X9 a1 a2
 obtain ⟨bx,cs,e,hmb,hheap,hsz,_,hR,_,_⟩:=a3.res 0
 have hpos:0 < vs.length:=by cases vs with|nil=>exact absurd rfl h0|cons _ _=>simp
 have hrow:=hR 0 (rowP vs) rfl
 obtain ⟨row,hrw⟩:∃ row,row=cs.getD 0 Go.undef:=⟨_,rfl⟩
 rw [← hrw] at hrow
 have hcell:w.cell? ⟨bx,0,none⟩=some row:=by
  obtain ⟨l⟩:=cs
  match l,hsz with
  | [q],_ =>
   subst hrw
   unfold World.cell?
   rw [hheap]
   rfl
 have e1:u1 = .agg #[.func (.func 23) #[] #[]]:=by
  cases r1 with
  | agg _ us hs hj _ =>
   obtain ⟨l⟩:=us
   match l,hs with
   | [q],_ =>
    have:=hj 0 _ rfl
    cases this with
    | fn _ _ _ fs ks h1 h2 _ _ =>
     obtain ⟨fl⟩:=fs
     obtain ⟨kl⟩:=ks
     match fl,kl,h1,h2 with
     | [],[],_,_=>rfl
 have e2:u2 = .func (.func 64) #[] #[.pointer (some ⟨bx,0,none⟩)]:=by
  cases r2 with
  | fn _ _ _ fs ks h1 h2 _ hj =>
   obtain ⟨fl⟩:=fs
   obtain ⟨kl⟩:=ks
   match fl,kl,h1,h2 with
   | [],[q],_,_ =>
    have:=hj 0 _ rfl
    cases this with
    | box _ _ b hb=>rw [hmb] at hb;cases hb;rfl
 subst e1 e2
 clear r1 r2 a1 a2
 obtain ⟨xs,hxs⟩:∃ xs,xs=vs.map fun v=>Den.vP v.1:=⟨_,rfl⟩
 have hrow':R X (.slice 4 xs) row:=by rw [hxs];exact hrow
 cases hrow' with
 | slice _ _ b o cap u k1 k2 k3 k4 k5 k6 =>
  have hlen:xs.length=vs.length:=by rw [hxs,List.length_map]
  have hget:∀ (j:Nat) (hj:j < vs.length) (i:Nat),i < 4→(xs.flatMap PV.cellsD)[j*4+i]? = [nI (vs[j]).1.1,nI (vs[j]).1.2.1,nI (vs[j]).1.2.2.1,PV.str (vs[j]).1.2.2.2][i]?:=fun j hj i hi=>by
   rw [Aa3 PV.cellsD xs (fun a ha=>by rw [hxs] at ha;obtain ⟨v,_,rfl⟩:=List.mem_map.1 ha;rfl),show (j*4+i) / 4=j by omega,show (j*4+i) % 4=i by omega,hxs,List.getElem?_map,List.getElem?_eq_getElem hj]
   rfl
  have hcl:∀ (j:Nat) (hj:j < vs.length) (i:Nat) (c:PV),i < 4→[nI (vs[j]).1.1,nI (vs[j]).1.2.1,nI (vs[j]).1.2.2.1,PV.str (vs[j]).1.2.2.2][i]? = some c→w.cell? ⟨b,o+j*4+i,none⟩=some (u (j*4+i))∧R X c (u (j*4+i)):=fun j hj i c hi hc=>by
   have hg:=(hget j hj i hi).trans hc
   have h1:=a3.ok.1 b (o+(j*4+i)) _ (k4 _ _ hg)
   rw [show o+(j*4+i)=o+j*4+i by omega] at h1
   exact ⟨h1,k5 _ _ hg⟩
  have hlie:∀ (j:Nat) (hj:j < vs.length),Go.Proofs.SqlSeq.Lies w b (o+j*4) (Vl (vs[j]).1):=fun j hj=>by
   obtain ⟨p0,q0⟩:=hcl j hj 0 _ (by omega) rfl
   obtain ⟨p1,q1⟩:=hcl j hj 1 _ (by omega) rfl
   obtain ⟨p2,q2⟩:=hcl j hj 2 _ (by omega) rfl
   obtain ⟨p3,q3⟩:=hcl j hj 3 _ (by omega) rfl
   rw [q0.int_inv] at p0
   rw [q1.int_inv] at p1
   rw [q2.int_inv] at p2
   rw [q3.str_inv] at p3
   exact ⟨p0,p1,p2,p3⟩
  have hb:b < w.heap.size:=cell_lt (hlie 0 hpos).1
  have key:=Ai4 6 (Nat.le_refl _) bx b o vs.length cap (fun x : {j:Nat // j < vs.length}=>Vl (vs[x.1]'x.2).1) (fun j=>if h:j < vs.length then ⟨j,h⟩ else ⟨0,hpos⟩) (fun x=>⟨(vs[x.1]'x.2).2.toArray⟩) h5 w hb (cell_lt hcell) (by rw [hcell,hlen]) (fun j hj=>by
   rw [dif_pos hj];exact hlie j hj) (fun x=>by
    show (vs[x.1]'x.2).2.toArray.size≤60000
    rw [List.size_toArray];exact (hv _ (List.getElem_mem x.2)).2) (fun x W hW=>Avm (hv _ (List.getElem_mem x.2)).1 (Xf a3.ok hW))
  have hfin:(upto (fun j=>if h:j < vs.length then (⟨j,h⟩ : {j:Nat // j < vs.length}) else ⟨0,hpos⟩) vs.length).map (fun x=>(⟨(vs[x.1]'x.2).2.toArray⟩:ByteArray))=(vs.map (·.2)).map fun t=>⟨t.toArray⟩:=by
   refine List.ext_getElem (by simp [upto]) fun i h1 h2=>?_
   have hi:i < vs.length:=by simpa [upto] using h1
   simp [upto,hi]
  rw [hfin] at key
  refine ((callsIn_wide (n:=6)).1 key).mono ?_
  rintro e w' ⟨rfl,bel⟩
  exact ⟨⟨_,rfl, .str _⟩,bel⟩
end Go.Proofs.YtdlkibeljkapeaaGreatDoor.Den
namespace Go.Proofs.YtdlkibeljkapeaaGreatDoor.Den
open Go Go.RowKit
noncomputable abbrev S7 (fs:List Ao) (a r:PV):Bool:=A0 r (Am PG (Aj An fs) 20 Kr [a] [])
def rvF:Ao:=.st Aeu [.agg [.fn G2 [] []], .fn Aez [] [.box 0 0]] [.box [.atom 5]] (.atom 12) [.box [.atom 5]]
theorem Ast:S7 [sA (.str (kw "insert into ")) (.atom 2) (.atom 10),sA (.atom 10) (.str (kw " values (")) (.atom 11),rvF,sA (.atom 11) (.atom 12) (.atom 13),sA (.atom 13) (.str (kw ")")) (.atom 14)] (Cf (nI 4) Bh (.atom 2) (.str []) (.str []) (.atom 5) E7.zero.L E7.zero.L) (.atom 14)=true:=by kernel_rfl
theorem Aq2:S7 [sA (.str (kw "drop table ")) (.atom 2) (.atom 10)] (Cf (nI 2) Bh (.atom 2) (.str []) (.str []) .nilslice E7.zero.L E7.zero.L) (.atom 10)=true:=by kernel_rfl
theorem Aqu:S7 [sA (.str (kw "alter table ")) (.atom 2) (.atom 10),sA (.atom 10) (.str (kw " add foreign key (")) (.atom 11),sA (.atom 11) (.atom 3) (.atom 12),sA (.atom 12) (.str (kw ") references ")) (.atom 13),sA (.atom 13) (.atom 4) (.atom 14)] (Cf (nI 3) Bh (.atom 2) (.atom 3) (.atom 4) .nilslice E7.zero.L E7.zero.L) (.atom 14)=true:=by kernel_rfl
def swF (b:Bool):List Ao:=match b with|true=>[oI .eql (.atom 70) (nI 0) (.bool false), .prim Hl [eA 70] (.atom 21),sA (.str (kw " where ")) (.atom 21) (.atom 22)]|false=>[]
theorem Asy:bl (fun b=>S7 (swF b++[sA (.str (kw "update ")) (.atom 2) (.atom 10),sA (.atom 10) (.str (kw " set ")) (.atom 11),sA (.atom 11) (.atom 3) (.atom 12),sA (.atom 12) (.str (kw " = ")) (.atom 13), .prim Hl [eA 60] (.atom 20),sA (.atom 13) (.atom 20) (.atom 14),sA (.atom 14) (Zk b) (.atom 15)]) (Cf (nI 5) Bh (.atom 2) (.atom 3) (.str []) .nilslice (G7 60) (wE b)) (.atom 15))=true:=by kernel_rfl
theorem Aw9:((List.range 3).all fun k=>bl (fun b=>S7 (swF b++[sA (.str (kw (E4 k))) (.atom 2) (.atom 10),sA (.atom 10) (Zk b) (.atom 11)]) (Cf (nI (6+k:Nat)) Bh (.atom 2) (.str []) (.str []) .nilslice E7.zero.L (wE b)) (.atom 11)))=true:=by kernel_rfl
open Go Go.RowKit
theorem Akl {w:Option Xp} (hw:Gx w) {nm col dst a b c d e f te:List UInt8} {x:E7}:Ah PG (Ab (Il nm col dst a b c d e f te (Oc w) x (wX w))) (swF w.isSome):=by
 cases w with
 | none=>trivial
 | some g =>
  have hg:=hw g rfl
  have hl:=hg.len
  have hpr:=Jz g hg.wf (by omega)
  obtain ⟨kk,hkk,hne⟩:=Y3 g hg.wf
  have h1:(kw " where ").length=7:=by decide
  exact ⟨Av (a:=kk) (b:=0) (c:=false) hkk rfl rfl (by rw [Hu];simp [hne]) (by decide) rfl,Ai hpr.x rfl rfl rfl,Ax (l:=kw " where ") (m:=g.txt) rfl rfl (by omega) rfl rfl,trivial⟩
theorem Adn {nm:List UInt8} (hn:Ea nm) {w:Option Xp} (hw:Gx w) {k:Nat} (hk:k < 3):Ev PG Kr [Cb (6+k:Nat) Bh nm [] [] .nilslice E7.zero (wX w)] (.str (kw (E4 k)++nm++Dq w)):=by
 have hl:=Jf hw
 have hnl:=Dv hn
 have hkl:(kw (E4 k)).length≤30:=by
  have:k=0∨k=1∨k=2:=by omega
  rcases this with rfl|rfl|rfl<;>decide
 have hp:=Nq (k:=(6+k:Nat)) (nm:=nm) (col:=[]) (dst:=[]) (e:=E7.zero) rfl (D9 w)
 have hT:subD (Ab (Il nm [] [] (kw (E4 k)++nm) (kw (E4 k)++nm++Dq w) [] [] [] [] [] (Oc w) E7.zero (wX w))) (Cf (nI (6+k:Nat)) Bh (.atom 2) (.str []) (.str []) .nilslice E7.zero.L (wE w.isSome))=Cb (6+k:Nat) Bh nm [] [] .nilslice E7.zero (wX w):=by
  cases w<;>rfl
 have:=Ev.facts (nu:=Ab (Il nm [] [] (kw (E4 k)++nm) (kw (E4 k)++nm++Dq w) [] [] [] [] [] (Oc w) E7.zero (wX w))) (args:=[Cf (nI (6+k:Nat)) Bh (.atom 2) (.str []) (.str []) .nilslice E7.zero.L (wE w.isSome)]) (r:=.atom 11) Af (Ns rfl (D9 w)) (As (Bo (List.all_eq_true.1 Aw9 k (by rw [List.mem_range];exact hk)) w.isSome))
  (Ah.append (Akl hw) ⟨Ax (l:=kw (E4 k)) (m:=nm) rfl rfl (by omega) rfl rfl,Ax (l:=kw (E4 k)++nm) (m:=Dq w) rfl (by cases w<;>rfl) (by rw [List.length_append];omega) rfl rfl,trivial⟩)
  (Oz hT hp (by cases w<;>rfl) (by cases w<;>rfl)) rfl
 simp only [List.map_cons,List.map_nil,hT] at this
 exact this
theorem Ass {nm col:List UInt8} (hn:Ea nm) (hc:Ea col) {e:Xp} (he:J5 e) {w:Option Xp} (hw:Gx w):Ev PG Kr [Cb 5 Bh nm col [] .nilslice e.e7 (wX w)] (.str (kw "update " ++ nm++kw " set " ++ col++kw " = " ++ e.txt++Dq w)):=by
 have hl:=Jf hw
 have hnl:=Dv hn
 have hcl:=Dv hc
 have hel:=he.len
 have hpr:=Jz e he.wf (by omega)
 have k1:(kw "update ").length=7:=by decide
 have k2:(kw " set ").length=5:=by decide
 have k3:(kw " = ").length=3:=by decide
 have hp:=Nq (k:=5) (nm:=nm) (col:=col) (dst:=[]) (e:=e.e7) (Bg e) (D9 w)
 have hT:subD (Ab (Il nm col [] (kw "update " ++ nm) (kw "update " ++ nm++kw " set ") (kw "update " ++ nm++kw " set " ++ col) (kw "update " ++ nm++kw " set " ++ col++kw " = ") (kw "update " ++ nm++kw " set " ++ col++kw " = " ++ e.txt) (kw "update " ++ nm++kw " set " ++ col++kw " = " ++ e.txt++Dq w) e.txt (Oc w) e.e7 (wX w))) (Cf (nI 5) Bh (.atom 2) (.atom 3) (.str []) .nilslice (G7 60) (wE w.isSome))=Cb 5 Bh nm col [] .nilslice e.e7 (wX w):=by
  cases w<;>rfl
 have:=Ev.facts (args:=[Cf (nI 5) Bh (.atom 2) (.atom 3) (.str []) .nilslice (G7 60) (wE w.isSome)]) (r:=.atom 15) Af (Ns (Bg e) (D9 w)) (As (Bo Asy w.isSome))
  (Ah.append (Akl hw) ⟨Ax (l:=kw "update ") (m:=nm) rfl rfl (by omega) rfl rfl,Ax (l:=kw "update " ++ nm) (m:=kw " set ") rfl rfl (by simp only [List.length_append];omega) rfl rfl,Ax (l:=kw "update " ++ nm++kw " set ") (m:=col) rfl rfl (by simp only [List.length_append];omega) rfl rfl,
   Ax (l:=kw "update " ++ nm++kw " set " ++ col) (m:=kw " = ") rfl rfl (by simp only [List.length_append];omega) rfl rfl,Ai hpr.x rfl rfl rfl,Ax (l:=kw "update " ++ nm++kw " set " ++ col++kw " = ") (m:=e.txt) rfl rfl (by simp only [List.length_append];omega) rfl rfl,
   Ax (l:=kw "update " ++ nm++kw " set " ++ col++kw " = " ++ e.txt) (m:=Dq w) rfl (by cases w<;>rfl) (by simp only [List.length_append];omega) rfl rfl,trivial⟩)
  (Oz hT hp (by cases w<;>rfl) (by cases w<;>rfl)) rfl
 simp only [List.map_cons,List.map_nil,hT] at this
 exact this
theorem Aq6 {nm:List UInt8} (hn:Ea nm):Ev PG Kr [Cb 2 Bh nm [] [] .nilslice E7.zero E7.zero] (.str (kw "drop table " ++ nm)):=by
 have hnl:=Dv hn
 have k1:(kw "drop table ").length=11:=by decide
 exact Ev.facts (nu:=Ab (Il nm [] [] (kw "drop table " ++ nm) [] [] [] [] [] [] [] E7.zero E7.zero)) (args:=[Cf (nI 2) Bh (.atom 2) (.str []) (.str []) .nilslice E7.zero.L E7.zero.L]) (r:=.atom 10) Af (Ns rfl rfl) (As Aq2)
  ⟨Ax (l:=kw "drop table ") (m:=nm) rfl rfl (by omega) rfl rfl,trivial⟩ rfl rfl
theorem Aqj {nm col dst:List UInt8} (hn:Ea nm) (hc:Ea col) (hd:Ea dst):Ev PG Kr [Cb 3 Bh nm col dst .nilslice E7.zero E7.zero] (.str (kw "alter table " ++ nm++kw " add foreign key (" ++ col++kw ") references " ++ dst)):=by
 have h1:=Dv hn
 have h2:=Dv hc
 have h3:=Dv hd
 have k1:(kw "alter table ").length=12:=by decide
 have k2:(kw " add foreign key (").length=18:=by decide
 have k3:(kw ") references ").length=13:=by decide
 exact Ev.facts (nu:=Ab (Il nm col dst (kw "alter table " ++ nm) (kw "alter table " ++ nm++kw " add foreign key (") (kw "alter table " ++ nm++kw " add foreign key (" ++ col) (kw "alter table " ++ nm++kw " add foreign key (" ++ col++kw ") references ") (kw "alter table " ++ nm++kw " add foreign key (" ++ col++kw ") references " ++ dst) [] [] [] E7.zero E7.zero))
  (args:=[Cf (nI 3) Bh (.atom 2) (.atom 3) (.atom 4) .nilslice E7.zero.L E7.zero.L]) (r:=.atom 14) Af (Ns rfl rfl) (As Aqu)
  ⟨Ax (l:=kw "alter table ") (m:=nm) rfl rfl (by omega) rfl rfl,Ax (l:=kw "alter table " ++ nm) (m:=kw " add foreign key (") rfl rfl (by simp only [List.length_append];omega) rfl rfl,Ax (l:=kw "alter table " ++ nm++kw " add foreign key (") (m:=col) rfl rfl (by simp only [List.length_append];omega) rfl rfl,
   Ax (l:=kw "alter table " ++ nm++kw " add foreign key (" ++ col) (m:=kw ") references ") rfl rfl (by simp only [List.length_append];omega) rfl rfl,Ax (l:=kw "alter table " ++ nm++kw " add foreign key (" ++ col++kw ") references ") (m:=dst) rfl rfl (by simp only [List.length_append];omega) rfl rfl,trivial⟩ rfl rfl
theorem Aqf {a t:List UInt8} (h:a≠[]):Go.Proofs.SqlSeq.stepS ⟨a.toArray⟩ ⟨t.toArray⟩=⟨(a++([44,32]++t)).toArray⟩:=by
 unfold Go.Proofs.SqlSeq.stepS
 rw [if_neg (fun e=>h (by
  have:=congrArg (fun x:ByteArray=>x.data.toList) e
  simpa using this))]
 apply ByteArray.ext
 rw [ByteArray.data_append,ByteArray.data_append]
 simp
theorem Aiw:∀ (l:List (List UInt8)) (a:List UInt8),a≠[]→(l.map fun t=>(⟨t.toArray⟩:ByteArray)).foldl Go.Proofs.SqlSeq.stepS ⟨a.toArray⟩=⟨(a++l.flatMap fun t=>[44,32]++t).toArray⟩
 | [],a,_=>by simp
 | t::l,a,h=>by
  rw [List.map_cons,List.foldl_cons,Aqf h,Aiw l _ (by simp)]
  simp
theorem Aad (t:List UInt8) (l:List (List UInt8)) (h:t≠[]):joinL (t::l)=t++l.flatMap fun t=>[44,32]++t:=by
 unfold joinL Go.Proofs.SqlSeq.joinS
 rw [List.map_cons,List.foldl_cons]
 have:Go.Proofs.SqlSeq.stepS ⟨#[]⟩ ⟨t.toArray⟩=⟨t.toArray⟩:=by
  unfold Go.Proofs.SqlSeq.stepS
  rw [if_pos rfl]
  apply ByteArray.ext
  rw [ByteArray.data_append]
  simp
 rw [this,Aiw l t h]
theorem Agd:∀ (v:V4 × List UInt8) (vs:List (V4 × List UInt8)),Ei (v::vs)=v.2++(vs.map (·.2)).flatMap fun t=>[44,32]++t
 | v,[]=>by simp [Ei]
 | v,w::vs=>by
  have h:kw ", " = [44,32]:=by decide
  show v.2++(kw ", " ++ Ei (w::vs))=_
  rw [Agd w vs,h]
  simp
theorem Anx (vs:List (V4 × List UInt8)) (h:∀ v∈vs,v.2≠[]) (h0:vs≠[]):joinL (vs.map (·.2))=Ei vs:=by
 cases vs with
 | nil=>exact absurd rfl h0
 | cons v vs=>rw [List.map_cons,Aad _ _ (h v (by simp)),Agd]
theorem Asn {nm:List UInt8} (hn:Ea nm) {vs:List (V4 × List UInt8)} (h0:vs≠[]) (h5:vs.length≤1000) (hv:∀ v∈vs,Ie v.1 v.2∧Hk v.2) (hvl:(Ei vs).length≤5000):Ev PG Kr [Cb 4 Bh nm [] [] (rowP vs) E7.zero E7.zero] (.str (kw "insert into " ++ nm++kw " values (" ++ Ei vs++kw ")")):=by
 have h1:=Dv hn
 have k1:(kw "insert into ").length=12:=by decide
 have k2:(kw " values (").length=9:=by decide
 have k3:(kw ")").length=1:=by decide
 have hr:=Aqh h0 (by omega) (fun v h=>⟨(hv v h).1.one,by have:=(hv v h).1.len;omega⟩)
 rw [Anx vs (fun v h=>(hv v h).1.ne) h0] at hr
 have hp:(rowP vs).pure=true:=W8 vs
 have hnu:Bc (Ab [nI 0,nI 0, .str nm,nI 0,nI 0,rowP vs,nI 0,nI 0,nI 0,nI 0, .str (kw "insert into " ++ nm), .str (kw "insert into " ++ nm++kw " values ("), .str (Ei vs), .str (kw "insert into " ++ nm++kw " values (" ++ Ei vs), .str (kw "insert into " ++ nm++kw " values (" ++ Ei vs++kw ")")]) :=
  Ap (by simp only [List.all_cons,hp];rfl)
 refine Ev.facts (args:=[Cf (nI 4) Bh (.atom 2) (.str []) (.str []) (.atom 5) E7.zero.L E7.zero.L]) (r:=.atom 14) Af hnu (As Ast)
  ⟨Ax (l:=kw "insert into ") (m:=nm) rfl rfl (by omega) rfl rfl,Ax (l:=kw "insert into " ++ nm) (m:=kw " values (") rfl rfl (by simp only [List.length_append];omega) rfl rfl,Aw hr rfl rfl rfl rfl rfl,
   Ax (l:=kw "insert into " ++ nm++kw " values (") (m:=Ei vs) rfl rfl (by simp only [List.length_append];omega) rfl rfl,Ax (l:=kw "insert into " ++ nm++kw " values (" ++ Ei vs) (m:=kw ")") rfl rfl (by simp only [List.length_append];omega) rfl rfl,trivial⟩ ?_ rfl
 exact Oz (k:=4) (T:=Bh) (nm:=nm) (col:=[]) (dst:=[]) (row:=rowP vs) (e:=E7.zero) (w:=E7.zero) rfl (by
  have:=Nv (x:=Sx.ins nm vs)
  rw [Bool.and_eq_true] at this
  exact this.1) rfl rfl
end Go.Proofs.YtdlkibeljkapeaaGreatDoor.Den
namespace Go.Proofs
open Go.RowKit Go.Shelf
attribute [local go_sem] Oper.semAt_some
namespace SqlSeq
structure Fz where
 nm:ByteArray
 cols:Value
 key:Int
 uniq:Value
 ck:Int
 c1:Value
 c2:Value
 c3:Value
 c4:Value
 c5:Value
 c6:Value
 links:Value
def Fz.at (t:Fz) (W:World) (B:Nat):Prop :=
 W.cell? ⟨B,0,none⟩=some (.string t.nm)∧W.cell? ⟨B,1,none⟩=some t.cols∧W.cell? ⟨B,2,none⟩=some (.int .i64 t.key)∧W.cell? ⟨B,3,none⟩=some t.uniq∧W.cell? ⟨B,4,none⟩=some (.int .i64 t.ck) ∧
 W.cell? ⟨B,5,none⟩=some t.c1∧W.cell? ⟨B,6,none⟩=some t.c2∧W.cell? ⟨B,7,none⟩=some t.c3∧W.cell? ⟨B,8,none⟩=some t.c4∧W.cell? ⟨B,9,none⟩=some t.c5∧W.cell? ⟨B,10,none⟩=some t.c6∧W.cell? ⟨B,11,none⟩=some t.links
theorem Fz.at.below {t:Fz} {n₀ B:Nat} {A C:World} (hb:Below n₀ A C) (hB:B < n₀) (h:t.at A B):t.at C B:=by
 obtain ⟨h0,h1,h2,h3,h4,h5,h6,h7,h8,h9,h10,h11⟩:=h
 have f:∀ o v,A.cell? ⟨B,o,none⟩=some v→C.cell? ⟨B,o,none⟩=some v:=fun o v hv=>(hb.cell (p:=⟨B,o,none⟩) hB).trans hv
 exact ⟨f _ _ h0,f _ _ h1,f _ _ h2,f _ _ h3,f _ _ h4,f _ _ h5,f _ _ h6,f _ _ h7,f _ _ h8,f _ _ h9,f _ _ h10,f _ _ h11⟩
def Fz.ckV (t:Fz):Value:=.agg #[.int .i64 t.ck,t.c1,t.c2,t.c3,t.c4,t.c5,t.c6]
def Fz.val (t:Fz):Value:=.agg #[.string t.nm,t.cols, .int .i64 t.key,t.uniq, .int .i64 t.ck,t.c1,t.c2,t.c3,t.c4,t.c5,t.c6,t.links]
abbrev C3:=ByteArray × Int × Bool
def E8 (c:C3):Value:=.agg #[.string c.1, .int .i64 c.2.1, .bool c.2.2]
theorem below_grown {A C:World} (h:Below A.heap.size A C):A.grownBy C none:=⟨h.os,h.tape,h.output,h.size,fun b hb _=>h.block b hb⟩
def Ry:ByteArray:=⟨#[112,114,105,109,97,114,121,32,107,101,121,32,40]⟩
def Rm:ByteArray:=⟨#[117,110,105,113,117,101,32,40]⟩
def Rt:ByteArray:=⟨#[99,104,101,99,107,32,40]⟩
def P8:ByteArray:=⟨#[102,111,114,101,105,103,110,32,107,101,121,32,40]⟩
def P2:ByteArray:=⟨#[41,32,114,101,102,101,114,101,110,99,101,115,32]⟩
theorem Nn {k o e:ByteArray} (hk:k.size≤100) (ho:o.size≤50000) (he:e.size≤100):k.size+o.size≤maxLen∧(k++o).size+e.size≤maxLen:=by
 rw [ByteArray.size_append]
 unfold maxLen
 omega
theorem Aof {k o e f:ByteArray} (hk:k.size≤100) (ho:o.size≤50000) (he:e.size≤100) (hf:f.size≤100):(k++o++e).size+f.size≤maxLen:=by
 rw [ByteArray.size_append,ByteArray.size_append]
 unfold maxLen
 omega
theorem Ap7 {e:Ending} {A B C:Prop} (h:(e = .returned (.bool true)∧A∧B)∨(e = .returned (.bool false)∧C)):∃ bb,e = .returned (.bool bb)∧(bb=true→A∧B)∧(bb=false→C):=by
 rcases h with ⟨rfl,h1,h2⟩|⟨rfl,h1⟩
 ·exact ⟨true,rfl,(fun _=>⟨h1,h2⟩),(fun h=>by cases h)⟩
 ·exact ⟨false,rfl,(fun h=>by cases h),fun _=>h1⟩
theorem Aie (W:World) (x:Int × ByteArray):(W.alloc (.cells #[.int .i64 x.1, .string x.2] 103)).cell? ⟨W.heap.size,0,none⟩=some (.int .i64 x.1)∧(W.alloc (.cells #[.int .i64 x.1, .string x.2] 103)).cell? ⟨W.heap.size,1,none⟩=some (.string x.2):=by
 unfold World.cell?
 rw [World.alloc_heap_new]
 exact ⟨rfl,rfl⟩
set_option maxRecDepth 100000 in
set_option maxHeartbeats 16000000 in
theorem Akp (n:Nat) (_hn:2≤n) (l B:Nat) (t:Fz) (i:Int) (lk ow:ByteArray) (how:ow.size≤50000) (hlk:lk.size≤100) (b8:Nat) (W5:World) (ht:t.at W5 B) (c0:W5.cell? ⟨b8,0,none⟩=some (.int .i64 i)) (c1:W5.cell? ⟨b8,1,none⟩=some (.string lk)) (hlt8:b8 < W5.heap.size)
  (hcall:CallsIn Fence.wide (n - 1) Tryz.prog 63 #[t.val, .int .i64 i] W5.drew fun e W''=>e = .returned (.string ow)∧Below W5.drew.heap.size W5.drew W'')
  (post:Bool→World→World→Prop)
  (hgo:∀ w2,Below W5.drew.heap.size W5.drew w2→YieldAt Fence.wide (n - 1) Tryz.prog l #[.string (⟨#[102,111,114,101,105,103,110,32,107,101,121,32,40]⟩++ow++⟨#[41,32,114,101,102,101,114,101,110,99,101,115,32]⟩++lk)] w2 fun e W'=>∃ bb,e = .returned (.bool bb)∧post bb w2 W')
  (u2 u3 u4 u5 u6 u7 u9 u10 u11 u12 u13 u14 u15 u16 u17 u18 u19 u20 u21 u22 u23 u24 u25 u26 u27 u28 u29 u30 u31 u32 u33 u34 u35 u36 u37 u38 u39 u40 u41 u42 u43 u44 u45 u46 u47 u48 u49 u50 u51 u52 u53 u54 u55 u56 u57 u58 u59 u60 u61 u62 u63 u64 u65 u66 u67 u68 u69 u70 u71 u72 u73 u74 u75 u76 u77 u78 u79 u80:Value) (K0:Act→World→Prop)
  (hQ:∀ bb w2 W6,Below W5.drew.heap.size W5.drew w2→post bb w2 W6→K0 { tmps:=((.func (.yield l) #[] #[])::(.pointer (some ⟨B,0,none⟩))::u2::u3::u4::u5::u6::u7::(.pointer (some ⟨b8,0,none⟩))::u9::u10::u11::u12::u13::u14::u15::u16::u17::u18::u19::u20::u21::u22::u23::u24::u25::u26::u27::u28::u29::u30::u31::u32::u33::u34::u35::u36::u37::u38::u39::u40::u41::u42::u43::u44::u45::u46::u47::u48::u49::u50::u51::u52::u53::u54::u55::u56::u57::u58::u59::u60::u61::u62::u63::u64::u65::u66::u67::(.func (.yield l) #[] #[])::t.val::(.pointer (some ⟨b8,0,none⟩))::(.int .i64 i)::(.string ow)::(.string (⟨#[102,111,114,101,105,103,110,32,107,101,121,32,40]⟩++ow))::(.string (⟨#[102,111,114,101,105,103,110,32,107,101,121,32,40]⟩++ow++⟨#[41,32,114,101,102,101,114,101,110,99,101,115,32]⟩))::(.pointer (some ⟨b8,1,none⟩))::(.string lk)::(.string (⟨#[102,111,114,101,105,103,110,32,107,101,121,32,40]⟩++ow++⟨#[41,32,114,101,102,101,114,101,110,99,101,115,32]⟩++lk))::(.bool bb)::(.bool (!bb))::u80::([]:List Value)).toArray,defers:=[] } W6) :
  Code.wpIn Fence.wide n Tryz.prog (Code.region 15 #[{ dst:=some 68,op:=Op.move (Operand.tmp 0),type:=104,pos := "sql.go:180", after:=#[],guard:=none },{ dst:=some 69,op:=Op.load 34 (Operand.tmp 1),type:=34,pos := "sql.go:180", after:=#[],guard:=none },{ dst:=some 70,op:=Op.fieldAddr 103 (Operand.tmp 8) 0,type:=0,pos := "sql.go:180", after:=#[],guard:=none },{ dst:=some 71,op:=Op.load 3 (Operand.tmp 70),type:=3,pos := "sql.go:180", after:=#[{ on:=2,ground:=Ground.data }],guard:=none },{ dst:=some 72,op:=Op.call { callee:=Callee.value (Operand.func 63),args:=#[Operand.tmp 69,Operand.tmp 71],argTypes:=#[34,3] },type:=9,pos := "sql.go:180", after:=#[{ on:=1,ground:=Ground.data },{ on:=3,ground:=Ground.data }],guard:=none },{ dst:=some 73,op:=Op.binOp BinOp.add 9 (Operand.const (Value.string { data:=#[102,111,114,101,105,103,110,32,107,101,121,32,40] })) (Operand.tmp 72) 9,type:=9,pos := "sql.go:180", after:=#[{ on:=4,ground:=Ground.data }],guard:=none },{ dst:=some 74,op:=Op.binOp BinOp.add 9 (Operand.tmp 73) (Operand.const (Value.string { data:=#[41,32,114,101,102,101,114,101,110,99,101,115,32] })) 9,type:=9,pos := "sql.go:180", after:=#[{ on:=5,ground:=Ground.data }],guard:=none },{ dst:=some 75,op:=Op.fieldAddr 103 (Operand.tmp 8) 1,type:=0,pos := "sql.go:180", after:=#[],guard:=none },{ dst:=some 76,op:=Op.load 9 (Operand.tmp 75),type:=9,pos := "sql.go:180", after:=#[{ on:=7,ground:=Ground.data }],guard:=none },{ dst:=some 77,op:=Op.binOp BinOp.add 9 (Operand.tmp 74) (Operand.tmp 76) 9,type:=9,pos := "sql.go:180", after:=#[{ on:=6,ground:=Ground.data },{ on:=8,ground:=Ground.data }],guard:=none },{ dst:=some 78,op:=Op.call { callee:=Callee.value (Operand.tmp 68),args:=#[Operand.tmp 77],argTypes:=#[9] },type:=4,pos := "sql.go:180", after:=#[{ on:=0,ground:=Ground.data },{ on:=9,ground:=Ground.data },{ on:=4,ground:=Ground.chain }],guard:=none },{ dst:=some 79,op:=Op.unOp UnOp.not 4 (Operand.tmp 78),type:=4,pos := "sql.go:180", after:=#[{ on:=10,ground:=Ground.data }],guard:=none }] true) (Exit.then K0 (fun _ _ _=>False)) { tmps:=((.func (.yield l) #[] #[])::(.pointer (some ⟨B,0,none⟩))::u2::u3::u4::u5::u6::u7::(.pointer (some ⟨b8,0,none⟩))::u9::u10::u11::u12::u13::u14::u15::u16::u17::u18::u19::u20::u21::u22::u23::u24::u25::u26::u27::u28::u29::u30::u31::u32::u33::u34::u35::u36::u37::u38::u39::u40::u41::u42::u43::u44::u45::u46::u47::u48::u49::u50::u51::u52::u53::u54::u55::u56::u57::u58::u59::u60::u61::u62::u63::u64::u65::u66::u67::u68::u69::u70::u71::u72::u73::u74::u75::u76::u77::u78::u79::u80::([]:List Value)).toArray,defers:=[] } W5:=by
 obtain ⟨p0,p1,p2,p3,p4,p5,p6,p7,p8,p9,p10,p11⟩:=ht
 have hmx:Tryz.prog.follows .mixedOrders=true:=by kernel_rfl
 unfold Fz.val at hcall hQ
 have hsz1:(⟨#[102,111,114,101,105,103,110,32,107,101,121,32,40]⟩:ByteArray).size+ow.size≤maxLen:=(Nn (e:=⟨#[41]⟩) (by decide) how (by decide)).1
 have hsz2:((⟨#[102,111,114,101,105,103,110,32,107,101,121,32,40]⟩:ByteArray)++ow).size+(⟨#[41,32,114,101,102,101,114,101,110,99,101,115,32]⟩:ByteArray).size≤maxLen:=(Nn (by decide) how (by decide)).2
 have hsz3:((⟨#[102,111,114,101,105,103,110,32,107,101,121,32,40]⟩:ByteArray)++ow++⟨#[41,32,114,101,102,101,114,101,110,99,101,115,32]⟩).size+lk.size≤maxLen:=Aof (by decide) how (by decide) hlk
 gi_region_with_o (first
  | (refine ⟨trivial,fun h=>(by cases h),?_⟩;refine hcall.mono ?_;rintro e w2 ⟨rfl,hbel⟩;have c1':=(hbel.cell (p:=⟨b8,1,none⟩) hlt8).trans c1;obtain ⟨fn,tmps,assign,body,hy,hR⟩:=hgo w2 hbel;clear hcall)
  | (refine ⟨fun h=>(by cases h),?_⟩;refine hR.mono ?_;rintro e W6 ⟨bb,rfl,hp⟩;clear hy))
 all_goals exact hQ _ _ _ hbel hp
theorem Afp {n:Nat} {c:Code} {Q:Exit→Act→World→Prop} {a:Act} {w:World} (h:c.wpIn Fence.wide n Tryz.prog (Exit.then (fun a w=>Q .normal a w) (fun _ _ _=>False)) a w):c.wpIn Fence.wide n Tryz.prog Q a w :=
 wpIn_mono h (fun e a w h=>by cases e<;>first|exact h|exact h.elim)
end SqlSeq
end Go.Proofs
namespace Go.Proofs
open Go.RowKit Go.Shelf
attribute [local go_sem] Oper.semAt_some
namespace SqlSeq
theorem Ag9 {n l:Nat} {args:Array Value} {W:World} {A B C:World→Prop} (h:YieldAt Fence.wide n Tryz.prog l args W fun e W'=>(e = .returned (.bool true)∧A W'∧B W')∨(e = .returned (.bool false)∧C W')) :
  YieldAt Fence.wide n Tryz.prog l args W fun e W'=>∃ bb,e = .returned (.bool bb)∧(bb=true→A W'∧B W')∧(bb=false→C W'):=by
 obtain ⟨fn,tmps,assign,body,hy,hR⟩:=h
 exact ⟨fn,tmps,assign,body,hy,hR.mono fun _ _ h=>Ap7 h⟩
set_option maxRecDepth 100000 in
set_option maxHeartbeats 16000000 in
theorem An0 (n:Nat) (hn:2≤n) (l B n₀ b1 o1 nc cap1:Nat) (t:Fz) (htc:t.cols = .slice (some ⟨b1,o1,none⟩) nc cap1)
  (b2 o2:Nat) (au:Option Addr) (nu cap2:Nat) (hun:t.uniq = .slice au nu cap2) (hau:0 < nu→au=some ⟨b2,o2,none⟩)
  (b3 o3:Nat) (al:Option Addr) (nl cap3:Nat) (hln:t.links = .slice al nl cap3) (hal:0 < nl→al=some ⟨b3,o3,none⟩)
  {α:Type} (L:α→ByteArray) (cv:Nat→C3) (uv:Nat→Int) (lv:Nat→Int × ByteArray) (fC fU fL:Nat→α) (fP fK:α) (hB:B < n₀) (hb1:b1 < n₀) (hb2:0 < nu→b2 < n₀) (hb3:0 < nl→b3 < n₀) (hnc:nc≤1000) (hnu:nu≤1000) (hnl:nl≤1000) (N:Nat) (W:World) (J Jx:List α→World→Prop)
  (hcol:∀ j W',j < nc→Below n₀ W W'→Calls Tryz.prog 62 #[E8 (cv j)] W' fun e W''=>e = .returned (.string (L (fC j)))∧Below W'.heap.size W' W'')
  (ow:Int→ByteArray) (how:∀ i,(ow i).size≤50000) (Oi:Int→Prop) (hown:∀ i W',Oi i→Below n₀ W W'→Calls Tryz.prog 63 #[t.val, .int .i64 i] W' fun e W''=>e = .returned (.string (ow i))∧Below W'.heap.size W' W'')
  (ok:Oi t.key) (ou:∀ j,j < nu→Oi (uv j)) (ol:∀ j,j < nl→Oi (lv j).1)
  (ek:ByteArray) (hek:ek.size≤50000) (hexp:t.ck≠0→∀ W',Below n₀ W W'→Calls Tryz.prog 26 #[t.ckV] W' fun e W''=>e = .returned (.string ek)∧Below W'.heap.size W' W'')
  (hfP:L fP=Ry++ow t.key++⟨#[41]⟩) (hfU:∀ j,j < nu→L (fU j)=Rm++ow (uv j)++⟨#[41]⟩) (hfK:L fK=Rt++ek++⟨#[41]⟩) (hfL:∀ j,j < nl→L (fL j)=P8++ow (lv j).1++P2++(lv j).2) (hlv:∀ j,j < nl→(lv j).2.size≤100)
  (hY:∀ pre x W,J pre W→pre.length < N→YieldAt Fence.wide (n - 1) Tryz.prog l #[.string (L x)] W fun e W' =>
   (e = .returned (.bool true)∧J (pre++[x]) W'∧Below n₀ W W')∨(e = .returned (.bool false)∧Jx (pre++[x]) W'))
  (hJ:∀ pre A C,J pre A→Below A.heap.size A C→J pre C)
  (hn₀:n₀≤W.heap.size) (ht:t.at W B) (hcs:∀ j,j < nc→W.cell? ⟨b1,o1+j*3,none⟩=some (.string (cv j).1)∧W.cell? ⟨b1,o1+j*3+1,none⟩=some (.int .i64 (cv j).2.1)∧W.cell? ⟨b1,o1+j*3+2,none⟩=some (.bool (cv j).2.2))
  (hus:∀ j,j < nu→W.cell? ⟨b2,o2+j,none⟩=some (.int .i64 (uv j))) (hls:∀ j,j < nl→W.cell? ⟨b3,o3+j*2,none⟩=some (.int .i64 (lv j).1)∧W.cell? ⟨b3,o3+j*2+1,none⟩=some (.string (lv j).2))
  (hN:nc+nu+nl+2≤N) (h0:J [] W) (Q:Ending→World→Prop) (hQx:∀ v pre W',Jx pre W'→Q (.returned v) W') (hQ:∀ v W',J (upto fC nc++[fP]++upto fU nu++(if t.ck=0 then [] else [fK])++upto fL nl) W'→Q (.returned v) W') :
  CallsIn Fence.wide n Tryz.prog 61 #[.func (.yield l) #[] #[], .pointer (some ⟨B,0,none⟩)] W Q:=by
 refine callsIn_of_wp Tryz.func61 rfl trivial ?_ rfl
 simp only [Tryz.ntmps61,List.size_toArray,List.length_cons,List.length_nil,Nat.reduceAdd,Nat.reduceSub,Array.replicate_succ,Array.replicate_zero,List.push_toArray,List.append_toArray,List.nil_append,List.cons_append]
 have ht0:=ht
 obtain ⟨q0,q1,q2,q3,q4,q5,q6,q7,q8,q9,q10,q11⟩:=ht
 rw [htc] at q1
 gi_wp2
 gi_loopw [12] (fun i wr=>∃ k:Nat,k≤nc∧i = .int .i64 k∧J (upto fC k) wr∧Below n₀ W wr)
  (fun i _=>nc - (intOf i).toNat)
 case atStart=>exact ⟨0,Nat.zero_le _,rfl,h0,Below.refl _ _⟩
 case round =>
  obtain ⟨k,hk,rfl,hJs,hnx⟩:=hrel
  have hws:=hnx.size
  by_cases hlt:k < nc
  ·have hl:∀ o v,W.cell? ⟨b1,o,none⟩=some v→wr.cell? ⟨b1,o,none⟩=some v:=fun o v hv=>(hnx.cell (p:=⟨b1,o,none⟩) hb1).trans hv
   obtain ⟨g1,g2,g3⟩:=hcs k hlt
   have g1:=hl _ _ g1
   have g2:=hl _ _ g2
   have g3:=hl _ _ g3
   have hb0:=hnx.alloc (by omega) (.cells #[.string (cv k).1, .int .i64 (cv k).2.1, .bool (cv k).2.2] 101)
   have hcall:=(callsIn_wide (n:=n - 1)).2 (hcol k _ hlt hb0)
   unfold E8 at hcall
   gi_wp2
   refine ⟨trivial,fun h=>(by cases h),?_⟩
   refine hcall.mono ?_
   rintro e w1 ⟨rfl,hbel⟩
   have hJ1:=hJ _ _ _ (hJ _ wr _ hJs ((Below.refl _ wr).alloc (Nat.le_refl _) _)) hbel
   obtain ⟨fn,tmps,assign,body,hy,hR⟩:=hY _ (fC k) w1 hJ1 (by rw [upto_length];omega)
   gi_wp2
   refine ⟨fun h=>(by cases h),?_⟩
   refine hR.mono ?_
   rintro e W3 (⟨rfl,hJ3,hk3⟩|⟨rfl,hJx3⟩)
   ·gi_wp2
    go_roundw
    case rel=>exact ⟨k+1,by omega,by simp,by rw [upto_succ];exact hJ3,((hnx.alloc (by omega) _).trans (hbel.mono (by simp;omega))).trans hk3⟩
    case measure=>simp [intOf];omega
   ·gi_wp2
    refine bodyPost_ret (results_none rfl _ _ _) rfl ?_
    exact hQx _ _ _ hJx3
  ·obtain rfl:k=nc:=by omega
   obtain ⟨p0,p1,p2,p3,p4,p5,p6,p7,p8,p9,p10,p11⟩:=ht0.below hnx hB
   have hcall:=(callsIn_wide (n:=n - 1)).2 (hown _ wr ok hnx)
   unfold Fz.val at hcall
   have how1:=how t.key
   have hpk:(⟨#[112,114,105,109,97,114,121,32,107,101,121,32,40]⟩:ByteArray).size+(ow t.key).size≤maxLen:=(Nn (e:=⟨#[41]⟩) (by decide) (how _) (by decide)).1
   have hpk2:((⟨#[112,114,105,109,97,114,121,32,107,101,121,32,40]⟩:ByteArray)++ow t.key).size+(⟨#[41]⟩:ByteArray).size≤maxLen:=(Nn (by decide) (how _) (by decide)).2
   rw [htc,hun,hln] at hcall
   rw [htc] at p1
   rw [hun] at p3
   rw [hln] at p11
   gi_wp2
   refine ⟨trivial,fun h=>(by cases h),?_⟩
   refine hcall.mono ?_
   rintro e w1 ⟨rfl,hbel⟩
   have hJ1:=hJ _ _ _ hJs hbel
   obtain ⟨fn,tmps,assign,body,hy,hR⟩:=hY _ fP w1 hJ1 (by rw [upto_length];omega)
   rw [hfP] at hy
   unfold Ry at hy
   gi_wp2
   refine ⟨fun h=>(by cases h),?_⟩
   refine hR.mono ?_
   rintro e W3 (⟨rfl,hJ3,hk3⟩|⟨rfl,hJx3⟩)
   ·have hn3:Below n₀ W W3:=(hnx.trans (hbel.mono (by omega))).trans hk3
    clear hcall hy hR hJ1 hk3 hbel hJs hnx p0 p1 p2 p3 p4 p5 p6 p7 p8 p9 p10 p11 hpk hpk2 q0 q1 q2 q3 q4 q5 q6 q7 q8 q9 q10 q11
    obtain ⟨r0,r1,r2,r3,r4,r5,r6,r7,r8,r9,r10,r11⟩:=ht0.below hn3 hB
    rw [hun] at r3
    gi_wp2
    clear r0 r1 r2 r3 r4 r5 r6 r7 r8 r9 r10 r11
    gi_loopw [34] (fun i wr=>∃ k':Nat,k'≤nu∧i = .int .i64 k'∧J (upto fC k++[fP]++upto fU k') wr∧Below n₀ W wr)
     (fun i _=>nu - (intOf i).toNat)
    case atStart=>exact ⟨0,Nat.zero_le _,rfl,by simpa [upto] using hJ3,hn3⟩
    case round =>
     obtain ⟨k',hk',rfl,hJs,hnx⟩:=hrel
     have hws:=hnx.size
     obtain ⟨p0,p1,p2,p3,p4,p5,p6,p7,p8,p9,p10,p11⟩:=ht0.below hnx hB
     rw [htc] at p1
     rw [hun] at p3
     rw [hln] at p11
     by_cases hlt':k' < nu
     ·obtain rfl:=hau (by omega)
      have g1:=(hnx.cell (p:=⟨b2,o2+k',none⟩) (hb2 (by omega))).trans (hus k' hlt')
      have hcall:=(callsIn_wide (n:=n - 1)).2 (hown _ wr (ou k' hlt') hnx)
      unfold Fz.val at hcall
      rw [htc,hun,hln] at hcall
      have how1:=how (uv k')
      have hpk:(⟨#[117,110,105,113,117,101,32,40]⟩:ByteArray).size+(ow (uv k')).size≤maxLen:=(Nn (e:=⟨#[41]⟩) (by decide) (how _) (by decide)).1
      have hpk2:((⟨#[117,110,105,113,117,101,32,40]⟩:ByteArray)++ow (uv k')).size+(⟨#[41]⟩:ByteArray).size≤maxLen:=(Nn (by decide) (how _) (by decide)).2
      gi_wp2
      refine ⟨trivial,fun h=>(by cases h),?_⟩
      refine hcall.mono ?_
      rintro e w1 ⟨rfl,hbel⟩
      have hJ1:=hJ _ _ _ hJs hbel
      obtain ⟨fn,tmps,assign,body,hy,hR⟩:=hY _ (fU k') w1 hJ1 (by simp only [List.length_append,upto_length,List.length_cons,List.length_nil];omega)
      rw [hfU k' hlt'] at hy
      unfold Rm at hy
      gi_wp2
      refine ⟨fun h=>(by cases h),?_⟩
      refine hR.mono ?_
      rintro e W4 (⟨rfl,hJ4,hk4⟩|⟨rfl,hJx4⟩)
      ·gi_wp2
       go_roundw
       case rel=>exact ⟨k'+1,by omega,by simp,by rw [upto_succ,← List.append_assoc];exact hJ4,(hnx.trans (hbel.mono (by omega))).trans hk4⟩
       case measure=>simp [intOf];omega
      ·gi_wp2
       refine bodyPost_ret (results_none rfl _ _ _) rfl ?_
       exact hQx _ _ _ hJx4
     ·obtain rfl:k'=nu:=by omega
      by_cases hck:t.ck=0
      ·rw [hck] at p4
       gi_wp2
       refine ⟨trivial,?_⟩
       rename_i hKK
       refine hKK _ _ ?_
       clear hKK
       gi_wp2
       refine ⟨fun f h=>(by cases h),?_⟩
       rename_i hKK _ _ _ _
       refine hKK _ _ ?_
       clear hKK
       gi_wp2
       have hn4:=hnx
       clear p0 p1 p2 p3 p4 p5 p6 p7 p8 p9 p10 p11 hnx
       gi_loopw [64] (fun i wr=>∃ k3:Nat,k3≤nl∧i = .int .i64 k3∧J (upto fC k++[fP]++upto fU k'++[]++upto fL k3) wr∧Below n₀ W wr)
        (fun i _=>nl - (intOf i).toNat)
       case atStart=>exact ⟨0,Nat.zero_le _,rfl,by simpa [upto] using hJs,hn4⟩
       case round =>
        obtain ⟨k3,hk3,rfl,hJs3,hnx3⟩:=hrel
        have hws3:=hnx3.size
        by_cases hlt3:k3 < nl
        ·obtain rfl:=hal (by omega)
         obtain ⟨g1,g2⟩:=hls k3 hlt3
         have g1:=(hnx3.cell (p:=⟨b3,o3+k3*2,none⟩) (hb3 (by omega))).trans g1
         have g2:=(hnx3.cell (p:=⟨b3,o3+k3*2+1,none⟩) (hb3 (by omega))).trans g2
         have hlv1:=hlv k3 hlt3
         gi_wp2
         have hmx:Tryz.prog.follows .mixedOrders=true:=by kernel_rfl
         have hb5:=hnx3.alloc (by omega) (.cells #[.int .i64 (lv k3).1, .string (lv k3).2] 103)
         have hJ5:=hJ _ _ _ hJs3 ((Below.refl _ wr).alloc (Nat.le_refl _) (.cells #[.int .i64 (lv k3).1, .string (lv k3).2] 103))
         have hat:=ht0.below hb5 hB
         obtain ⟨c0,c1⟩:=Aie wr (lv k3)
         have hlt8:wr.heap.size < (wr.alloc (.cells #[.int .i64 (lv k3).1, .string (lv k3).2] 103)).heap.size:=by simp
         obtain ⟨W5,hW5⟩:∃ W5,wr.alloc (.cells #[.int .i64 (lv k3).1, .string (lv k3).2] 103)=W5:=⟨_,rfl⟩
         rw [hW5] at hb5 hJ5 hat c0 c1 hlt8 ⊢
         have hcall:=(callsIn_wide (n:=n - 1)).2 (hown _ W5.drew (ol k3 hlt3) hb5.drew)
         have hgo:=fun w2 (hbel:Below W5.drew.heap.size W5.drew w2)=>hY _ (fL k3) w2 (hJ _ _ _ (hJ _ _ _ hJ5 ((Below.refl _ W5).drew)) hbel) (by simp only [List.length_append,upto_length,List.length_cons,List.length_nil];omega)
         rw [hfL k3 hlt3] at hgo
         unfold P8 P2 at hgo
         have hgo2:=fun w2 hbel=>Ag9 (hgo w2 hbel)
         have hreg:=Akp n hn l B t (lv k3).1 (lv k3).2 (ow (lv k3).1) (how _) hlv1 wr.heap.size W5 hat c0 c1 hlt8 hcall _ hgo2
         unfold Fz.val at hreg
         rw [htc,hun,hln] at hreg
         refine Afp ?_
         refine hreg _ _ _ _ _ _ _ _ _ _ _ _ _ _ _ _ _ _ _ _ _ _ _ _ _ _ _ _ _ _ _ _ _ _ _ _ _ _ _ _ _ _ _ _ _ _ _ _ _ _ _ _ _ _ _ _ _ _ _ _ _ _ _ _ _ _ _ _ _ _ _ _ _ _ _ _ _ _ _ ?_
         rintro bb w2 W6 hbel ⟨hp1,hp2⟩
         have hb6:=hb5.drew.trans (hbel.mono (Nat.le_trans hn₀ hb5.drew.size))
         clear hreg hgo hgo2 hcall
         cases bb
         ·have hJx6:=hp2 rfl
          gi_wp2
          refine bodyPost_ret (results_none rfl _ _ _) rfl ?_
          exact hQx _ _ _ hJx6
         ·obtain ⟨hJ6,hk6⟩:=hp1 rfl
          gi_wp2
          go_roundw
          case rel=>exact ⟨k3+1,by omega,by simp,by rw [upto_succ,← List.append_assoc];exact hJ6,hb6.trans hk6⟩
          case measure=>simp [intOf];omega
        ·obtain rfl:k3=nl:=by omega
         gi_wp2
         go_end0
         refine hQ _ _ ?_
         first|(rw [if_pos hck];exact hJs3)|(rw [if_neg hck];exact hJs3)
      ·have hcall:=(callsIn_wide (n:=n - 1)).2 (hexp hck wr hnx)
       unfold Fz.ckV at hcall
       have hpk:(⟨#[99,104,101,99,107,32,40]⟩:ByteArray).size+ek.size≤maxLen:=(Nn (e:=⟨#[41]⟩) (by decide) hek (by decide)).1
       have hpk2:((⟨#[99,104,101,99,107,32,40]⟩:ByteArray)++ek).size+(⟨#[41]⟩:ByteArray).size≤maxLen:=(Nn (by decide) hek (by decide)).2
       gi_wp2
       refine ⟨trivial,fun h=>(by cases h),?_⟩
       refine hcall.mono ?_
       rintro e w1 ⟨rfl,hbel⟩
       have hJ1:=hJ _ _ _ hJs hbel
       obtain ⟨fn,tmps,assign,body,hy,hR⟩:=hY _ fK w1 hJ1 (by simp only [List.length_append,upto_length,List.length_cons,List.length_nil];omega)
       rw [hfK] at hy
       unfold Rt at hy
       gi_wp2
       refine ⟨fun h=>(by cases h),?_⟩
       refine hR.mono ?_
       rintro e W4 (⟨rfl,hJ4,hk4⟩|⟨rfl,hJx4⟩)
       ·have hn4:Below n₀ W W4:=(hnx.trans (hbel.mono (by omega))).trans hk4
        clear hcall hy hR hJ1 hk4 hbel hJs hnx p0 p1 p2 p3 p4 p5 p6 p7 p8 p9 p10 p11 hpk hpk2
        obtain ⟨p0,p1,p2,p3,p4,p5,p6,p7,p8,p9,p10,p11⟩:=ht0.below hn4 hB
        rw [hln] at p11
        gi_wp2
        clear p0 p1 p2 p3 p4 p5 p6 p7 p8 p9 p10 p11
        gi_loopw [64] (fun i wr=>∃ k3:Nat,k3≤nl∧i = .int .i64 k3∧J (upto fC k++[fP]++upto fU k'++[fK]++upto fL k3) wr∧Below n₀ W wr)
         (fun i _=>nl - (intOf i).toNat)
        case atStart=>exact ⟨0,Nat.zero_le _,rfl,by simpa [upto] using hJ4,hn4⟩
        case round =>
         obtain ⟨k3,hk3,rfl,hJs3,hnx3⟩:=hrel
         have hws3:=hnx3.size
         by_cases hlt3:k3 < nl
         ·obtain rfl:=hal (by omega)
          obtain ⟨g1,g2⟩:=hls k3 hlt3
          have g1:=(hnx3.cell (p:=⟨b3,o3+k3*2,none⟩) (hb3 (by omega))).trans g1
          have g2:=(hnx3.cell (p:=⟨b3,o3+k3*2+1,none⟩) (hb3 (by omega))).trans g2
          have hlv1:=hlv k3 hlt3
          gi_wp2
          have hmx:Tryz.prog.follows .mixedOrders=true:=by kernel_rfl
          have hb5:=hnx3.alloc (by omega) (.cells #[.int .i64 (lv k3).1, .string (lv k3).2] 103)
          have hJ5:=hJ _ _ _ hJs3 ((Below.refl _ wr).alloc (Nat.le_refl _) (.cells #[.int .i64 (lv k3).1, .string (lv k3).2] 103))
          have hat:=ht0.below hb5 hB
          obtain ⟨c0,c1⟩:=Aie wr (lv k3)
          have hlt8:wr.heap.size < (wr.alloc (.cells #[.int .i64 (lv k3).1, .string (lv k3).2] 103)).heap.size:=by simp
          obtain ⟨W5,hW5⟩:∃ W5,wr.alloc (.cells #[.int .i64 (lv k3).1, .string (lv k3).2] 103)=W5:=⟨_,rfl⟩
          rw [hW5] at hb5 hJ5 hat c0 c1 hlt8 ⊢
          have hcall:=(callsIn_wide (n:=n - 1)).2 (hown _ W5.drew (ol k3 hlt3) hb5.drew)
          have hgo:=fun w2 (hbel:Below W5.drew.heap.size W5.drew w2)=>hY _ (fL k3) w2 (hJ _ _ _ (hJ _ _ _ hJ5 ((Below.refl _ W5).drew)) hbel) (by simp only [List.length_append,upto_length,List.length_cons,List.length_nil];omega)
          rw [hfL k3 hlt3] at hgo
          unfold P8 P2 at hgo
          have hgo2:=fun w2 hbel=>Ag9 (hgo w2 hbel)
          have hreg:=Akp n hn l B t (lv k3).1 (lv k3).2 (ow (lv k3).1) (how _) hlv1 wr.heap.size W5 hat c0 c1 hlt8 hcall _ hgo2
          unfold Fz.val at hreg
          rw [htc,hun,hln] at hreg
          refine Afp ?_
          refine hreg _ _ _ _ _ _ _ _ _ _ _ _ _ _ _ _ _ _ _ _ _ _ _ _ _ _ _ _ _ _ _ _ _ _ _ _ _ _ _ _ _ _ _ _ _ _ _ _ _ _ _ _ _ _ _ _ _ _ _ _ _ _ _ _ _ _ _ _ _ _ _ _ _ _ _ _ _ _ _ ?_
          rintro bb w2 W6 hbel ⟨hp1,hp2⟩
          have hb6:=hb5.drew.trans (hbel.mono (Nat.le_trans hn₀ hb5.drew.size))
          clear hreg hgo hgo2 hcall
          cases bb
          ·have hJx6:=hp2 rfl
           gi_wp2
           refine bodyPost_ret (results_none rfl _ _ _) rfl ?_
           exact hQx _ _ _ hJx6
          ·obtain ⟨hJ6,hk6⟩:=hp1 rfl
           gi_wp2
           go_roundw
           case rel=>exact ⟨k3+1,by omega,by simp,by rw [upto_succ,← List.append_assoc];exact hJ6,hb6.trans hk6⟩
           case measure=>simp [intOf];omega
         ·obtain rfl:k3=nl:=by omega
          gi_wp2
          go_end0
          refine hQ _ _ ?_
          first|(rw [if_pos hck];exact hJs3)|(rw [if_neg hck];exact hJs3)
       ·gi_wp2
        refine bodyPost_ret (results_none rfl _ _ _) rfl ?_
        exact hQx _ _ _ hJx4
   ·gi_wp2
    refine bodyPost_ret (results_none rfl _ _ _) rfl ?_
    exact hQx _ _ _ hJx3
end SqlSeq
end Go.Proofs
