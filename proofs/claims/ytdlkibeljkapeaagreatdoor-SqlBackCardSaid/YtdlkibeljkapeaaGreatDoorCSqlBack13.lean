-- Written by drive.py and pack.py (programs of this proof's own) through the kit's printer; not trusted: Lean checks it.
import Derived.Test.YtdlkibeljkapeaaGreatDoorCSqlBack12
namespace Go.Proofs.YtdlkibeljkapeaaGreatDoor.Den
open Go Go.RowKit
def clK (t:Nat) (nn:Bool):List Ao:=[sA (.atom 0) (.str [32]) (.atom 1),sA (.atom 1) (.str (kw (E9.getD t ""))) (.atom 2)]++(match nn with|true=>[sA (.atom 2) (.str (kw " not null")) (.atom 3)]|false=>[])
theorem Awd:((List.range 5).all fun t=>bl fun nn=>A0 (.atom (if nn then 3 else 2)) (Am PG (Aj An (clK t nn)) 20 Ae9 [.agg [.atom 0,nI (t+1:Nat), .bool nn]] []))=true:=by kernel_rfl
def S1 (nn:Bool):List UInt8:=match nn with|true=>kw " not null" | false=>[]
def cT (nm:List UInt8) (t:Nat) (nn:Bool):List UInt8:=nm++([32]++(kw (E9.getD t "")++S1 nn))
theorem Aoy {nm:List UInt8} (hn:nm.length≤50000) {t:Nat} (ht:t < 5) (nn:Bool):Ev PG Ae9 [.agg [.str nm,nI (t+1:Nat), .bool nn]] (.str (cT nm t nn)):=by
 have hk:=Bo (List.all_eq_true.1 Awd t (by rw [List.mem_range];exact ht)) nn
 have hw:=Xi t ht
 have h9:(kw " not null").length=9:=by decide
 have hnu:Bc (Ab [.str nm, .str (nm++[32]), .str (nm++[32]++kw (E9.getD t "")), .str (nm++[32]++kw (E9.getD t "")++kw " not null")]):=Ap rfl
 have hf0:Ah PG (Ab [.str nm, .str (nm++[32]), .str (nm++[32]++kw (E9.getD t "")), .str (nm++[32]++kw (E9.getD t "")++kw " not null")]) [sA (.atom 0) (.str [32]) (.atom 1),sA (.atom 1) (.str (kw (E9.getD t ""))) (.atom 2)] :=
  ⟨Ax (l:=nm) (m:=[32]) rfl rfl (by simp only [List.length_cons,List.length_nil];omega) rfl rfl,Ax (l:=nm++[32]) (m:=kw (E9.getD t "")) rfl rfl (by simp only [List.length_append,List.length_cons,List.length_nil];omega) rfl rfl,trivial⟩
 cases nn with
 | true =>
  have:=Ev.facts Af hnu (As hk) (Ah.append hf0 ⟨Ax (l:=nm++[32]++kw (E9.getD t "")) (m:=kw " not null") rfl rfl (by simp only [List.length_append,List.length_cons,List.length_nil];omega) rfl rfl,trivial⟩) rfl rfl
  have e:nm++[32]++kw (E9.getD t "")++kw " not null" = cT nm t true:=by simp [cT,S1]
  rw [← e]
  exact this
 | false =>
  have:=Ev.facts Af hnu (As hk) (Ah.append hf0 trivial) rfl rfl
  have e:nm++[32]++kw (E9.getD t "")=cT nm t false:=by simp [cT,S1]
  rw [← e]
  exact this
def owK:List Ao:=[oI .lss (.atom 24) (nI 0) (.bool false), .op (.len G9) [.atom 1] (.atom 25),oI .geq (.atom 24) (.atom 25) (.bool false), .op (.ix G9) [.atom 1, .atom 24] (.ref [.atom 33, .atom 35, .atom 36])]
theorem Awu:A0 (.atom 33) (Am PG (Aj An owK) 20 Aa7 [.agg Fb, .atom 24] [])=true:=by kernel_rfl
abbrev GC:=List UInt8 × Nat × Bool
def Ob (c:GC):PV:=.agg [.str c.1,nI (c.2.1+1:Nat), .bool c.2.2]
def Gy (cs:List GC):PV:=.slice 3 (cs.map Ob)
theorem Abt (cs:List GC):PV.pureL (cs.map Ob)=true:=by
 induction cs with
 | nil=>rfl
 | cons c cs ih=>exact ih
theorem Ati (cs:List GC):E3 PG G9 (Gy cs)=some (nI cs.length):=by
 have hu:PG.underlying G9=some (.slice Lh):=by kernel_rfl
 unfold E3 Gy
 rw [hu]
 show some (nI ((List.map Ob cs).length:Nat))=_
 simp
theorem Auz {cs:List GC} {i:Nat} {c:GC} (hi:cs[i]? = some c):Gf PG G9 (Gy cs) (nI i)=some (.ref [.str c.1,nI (c.2.1+1:Nat), .bool c.2.2]):=by
 have hu:PG.underlying G9=some (.slice Lh):=by kernel_rfl
 have hs:Dl PG Lh=some 3:=by kernel_rfl
 unfold Gf Gy
 rw [hu]
 have:(cs.map Ob)[((i:Nat):Int).toNat]? = some (Ob c):=by simp [hi]
 simp only [hs,true_and]
 rw [if_pos (by omega),this]
 rfl
set_option maxRecDepth 40000 in
theorem Avj {nm:List UInt8} {cs:List GC} {key:Int} {uq k0 k1 k2 k3 k4 k5 k6 lk:PV} (hg:([uq,k0,k1,k2,k3,k4,k5,k6,lk].all fun p=>p.clean&&p.pure)=true) {i:Nat} {c:GC} (hi:cs[i]? = some c) :
  Ev PG Aa7 [.agg [.str nm,Gy cs,nI key,uq,k0,k1,k2,k3,k4,k5,k6,lk],nI i] (.str c.1):=by
 have hil:i < cs.length:=by
  rcases Nat.lt_or_ge i cs.length with h|h
  ·exact h
  ·rw [List.getElem?_eq_none h] at hi;cases hi
 have hnu:Bc (Ab ([.str nm,Gy cs,nI key,uq,k0,k1,k2,k3,k4,k5,k6,lk]++[nI 0,nI 0,nI 0,nI 0,nI 0,nI 0,nI 0,nI 0,nI 0,nI 0,nI 0,nI 0,nI i,nI cs.length,nI 0,nI 0,nI 0,nI 0,nI 0,nI 0,nI 0, .str c.1,nI 0,nI (c.2.1+1:Nat), .bool c.2.2])):=by
  refine Ap ?_
  simp only [List.all_cons,List.all_nil,Bool.and_eq_true,Bool.and_true] at hg
  simp only [List.cons_append,List.nil_append,List.all_cons,List.all_nil,hg,Bool.and_self,Bool.and_true,Bool.true_and]
  rw [show (Gy cs).clean=true from rfl,show (Gy cs).pure=true from Abt cs]
  rfl
 exact Ev.facts (args:=[.agg Fb, .atom 24]) (r:=.atom 33) Af hnu (As Awu)
  ⟨Av (a:=i) (b:=0) (c:=false) rfl rfl rfl (by simp only [Aq];rw [decide_eq_false (by omega)]) (by decide) rfl,⟨Ati cs,rfl⟩,Av (a:=i) (b:=cs.length) (c:=false) rfl rfl rfl (by simp only [Aq];rw [decide_eq_false (by omega)]) (by decide) rfl,⟨Auz hi,rfl⟩,trivial⟩ (by
   have hA:PV.pureL [.str nm,Gy cs,nI key,uq,k0,k1,k2,k3,k4,k5,k6,lk]=true:=by
    simp only [List.all_cons,List.all_nil,Bool.and_eq_true,Bool.and_true] at hg
    simp only [PV.pureL,hg,Bool.and_true]
    rw [show (Gy cs).pure=true from Abt cs]
    rfl
   have hB:E2 (Ab ([.str nm,Gy cs,nI key,uq,k0,k1,k2,k3,k4,k5,k6,lk]++[nI 0,nI 0,nI 0,nI 0,nI 0,nI 0,nI 0,nI 0,nI 0,nI 0,nI 0,nI 0,nI i,nI cs.length,nI 0,nI 0,nI 0,nI 0,nI 0,nI 0,nI 0, .str c.1,nI 0,nI (c.2.1+1:Nat), .bool c.2.2])) (.agg Fb)=true:=by
    unfold E2
    rw [show subD (Ab ([.str nm,Gy cs,nI key,uq,k0,k1,k2,k3,k4,k5,k6,lk]++[nI 0,nI 0,nI 0,nI 0,nI 0,nI 0,nI 0,nI 0,nI 0,nI 0,nI 0,nI 0,nI i,nI cs.length,nI 0,nI 0,nI 0,nI 0,nI 0,nI 0,nI 0, .str c.1,nI 0,nI (c.2.1+1:Nat), .bool c.2.2])) (.agg Fb) = .agg [.str nm,Gy cs,nI key,uq,k0,k1,k2,k3,k4,k5,k6,lk] from rfl]
    show (PV.pureL _&&_)=true
    rw [hA]
    rfl
   show ((E2 _ (.agg Fb)&&PV.shut (.agg Fb))&&_)=true
   rw [hB]
   rfl) rfl
end Go.Proofs.YtdlkibeljkapeaaGreatDoor.Den
namespace Go.Proofs
open Go.RowKit Go.Shelf
namespace SqlSeq
theorem Fz.at.grow {t:Fz} {B:Nat} {A C:World} (hb:Below A.heap.size A C) (hB:B < A.heap.size) (h:t.at A B):t.at C B:=h.below hb hB
theorem Zw (n:Nat) (hn:2≤n) (B n₀ b1 o1 nc cap1:Nat) (t:Fz) (htc:t.cols = .slice (some ⟨b1,o1,none⟩) nc cap1)
  (b2 o2:Nat) (au:Option Addr) (nu cap2:Nat) (hun:t.uniq = .slice au nu cap2) (hau:0 < nu→au=some ⟨b2,o2,none⟩)
  (b3 o3:Nat) (al:Option Addr) (nl cap3:Nat) (hln:t.links = .slice al nl cap3) (hal:0 < nl→al=some ⟨b3,o3,none⟩)
  {α:Type} (L:α→ByteArray) (cv:Nat→C3) (uv:Nat→Int) (lv:Nat→Int × ByteArray) (fC fU fL:Nat→α) (fP fK:α) (hB:B < n₀) (hb1:b1 < n₀) (hb2:0 < nu→b2 < n₀) (hb3:0 < nl→b3 < n₀) (hnc:nc≤1000) (hnu:nu≤1000) (hnl:nl≤1000) (N:Nat) (w:World)
  (hcol:∀ j W',j < nc→Below n₀ w W'→Calls Tryz.prog 62 #[E8 (cv j)] W' fun e W''=>e = .returned (.string (L (fC j)))∧Below W'.heap.size W' W'')
  (ow:Int→ByteArray) (how:∀ i,(ow i).size≤50000) (Oi:Int→Prop) (hown:∀ i W',Oi i→Below n₀ w W'→Calls Tryz.prog 63 #[t.val, .int .i64 i] W' fun e W''=>e = .returned (.string (ow i))∧Below W'.heap.size W' W'')
  (ok:Oi t.key) (ou:∀ j,j < nu→Oi (uv j)) (ol:∀ j,j < nl→Oi (lv j).1)
  (ek:ByteArray) (hek:ek.size≤50000) (hexp:t.ck≠0→∀ W',Below n₀ w W'→Calls Tryz.prog 26 #[t.ckV] W' fun e W''=>e = .returned (.string ek)∧Below W'.heap.size W' W'')
  (hfP:L fP=Ry++ow t.key++⟨#[41]⟩) (hfU:∀ j,j < nu→L (fU j)=Rm++ow (uv j)++⟨#[41]⟩) (hfK:L fK=Rt++ek++⟨#[41]⟩) (hfL:∀ j,j < nl→L (fL j)=P8++ow (lv j).1++P2++(lv j).2) (hlv:∀ j,j < nl→(lv j).2.size≤100)
  (hn₀:n₀≤w.heap.size) (ht:t.at w B) (hcs:∀ j,j < nc→w.cell? ⟨b1,o1+j*3,none⟩=some (.string (cv j).1)∧w.cell? ⟨b1,o1+j*3+1,none⟩=some (.int .i64 (cv j).2.1)∧w.cell? ⟨b1,o1+j*3+2,none⟩=some (.bool (cv j).2.2))
  (hus:∀ j,j < nu→w.cell? ⟨b2,o2+j,none⟩=some (.int .i64 (uv j))) (hls:∀ j,j < nl→w.cell? ⟨b3,o3+j*2,none⟩=some (.int .i64 (lv j).1)∧w.cell? ⟨b3,o3+j*2+1,none⟩=some (.string (lv j).2))
  (hN:nc+nu+nl+2≤N) :
  SeqStopsK Fence.wide n Tryz.prog 61 #[.pointer (some ⟨B,0,none⟩)] (fun x:α=>#[.string (L x)]) (Below n₀) (fun ys=>ys=upto fC nc++[fP]++upto fU nu++(if t.ck=0 then [] else [fK])++upto fL nl) (fun _=>True) N w:=fun l J Jx W hW hJ _ hY h0 =>
 have hw:Below n₀ w W:=hW.mono hn₀
 have hc:∀ (b o:Nat) (v:Value),b < w.heap.size→w.cell? ⟨b,o,none⟩=some v→W.cell? ⟨b,o,none⟩=some v:=fun b o _ hb hv=>(hW.cell (p:=⟨b,o,none⟩) hb).trans hv
 An0 n hn l B n₀ b1 o1 nc cap1 t htc b2 o2 au nu cap2 hun hau b3 o3 al nl cap3 hln hal L cv uv lv fC fU fL fP fK hB hb1 hb2 hb3 hnc hnu hnl N W J Jx
  (fun j W' hj hb=>hcol j W' hj (hw.trans hb)) ow how Oi (fun i W' hi hb=>hown i W' hi (hw.trans hb)) ok ou ol ek hek (fun h W' hb=>hexp h W' (hw.trans hb)) hfP hfU hfK hfL hlv hY
  (fun pre A C h hb=>hJ pre A C none h (below_grown hb) (fun r e=>by cases e)) (Nat.le_trans hn₀ hW.size) (ht.below hW (by omega))
  (fun j hj=>⟨hc _ _ _ (by omega) (hcs j hj).1,hc _ _ _ (by omega) (hcs j hj).2.1,hc _ _ _ (by omega) (hcs j hj).2.2⟩)
  (fun j hj=>hc _ _ _ (by have:=hb2 (by omega);omega) (hus j hj)) (fun j hj=>⟨hc _ _ _ (by have:=hb3 (by omega);omega) (hls j hj).1,hc _ _ _ (by have:=hb3 (by omega);omega) (hls j hj).2⟩)
  hN h0 _ (fun v pre _ h=>⟨⟨v,rfl⟩, .inr ⟨pre,trivial,h⟩⟩) (fun v _ h=>⟨⟨v,rfl⟩, .inl ⟨_,rfl,h⟩⟩)
end SqlSeq
end Go.Proofs
namespace Go.Proofs.YtdlkibeljkapeaaGreatDoor.Den
open Go Go.RowKit
open Go.Proofs.SqlSeq (upto joinS)
theorem Aaw {α β:Type} (n:Nat) (hn:0 < n) (f:α→List β):∀ (l:List α),(∀ a∈l,(f a).length=n)→∀ j i,i < n→(l.flatMap f)[j*n+i]? = (l[j]?).bind fun a=>(f a)[i]?
 | [],_,j,i,_=>by simp
 | a::l,h,j,i,hi=>by
  have ha:=h a (by simp)
  rw [List.flatMap_cons]
  cases j with
  | zero=>rw [List.getElem?_append_left (by omega)];simp
  | succ j =>
   have e:(j+1)*n=j*n+n:=Nat.succ_mul j n
   rw [List.getElem?_append_right (by omega),ha,show (j+1)*n+i - n=j*n+i by omega,Aaw n hn f l (fun b hb=>h b (by simp [hb])) j i hi]
   simp
theorem Z9 {X:Ag} {w:World} (hok:X.Ok w) {sz:Nat} {xs:List PV} {v:Value} (h:R X (.slice sz xs) v) :
  ∃ b o cap,v = .slice (some ⟨b,o,none⟩) xs.length cap∧∀ j a,xs[j]? = some a→∀ i c,i < sz→a.cellsD[i]? = some c→∃ u,w.cell? ⟨b,o+(j*sz+i),none⟩=some u∧R X c u:=by
 cases h with
 | slice _ _ b o cap u k1 k2 k3 k4 k5 k6 =>
  refine ⟨b,o,cap,rfl,fun j a ha i c hi hc=>⟨u (j*sz+i),?_,?_⟩⟩
  ·exact hok.1 b _ _ (k4 _ _ (by rw [Aaw sz k2 PV.cellsD xs k1 j i hi,ha];exact hc))
  ·exact k5 _ _ (by rw [Aaw sz k2 PV.cellsD xs k1 j i hi,ha];exact hc)
open Go Go.RowKit
open Go.Proofs.SqlSeq (upto joinS Fz E8 Zw Ack Ry Rm Rt P8 P2)
structure Tg where
 nm:List UInt8
 cols:List GC
 key:Nat
 uq:List Nat
 kk:Int
 ck:E7
 ct:List UInt8
 lk:List (Nat × List UInt8)
def R7:List Nat→PV
 | []=>.nilslice
 | l=>.slice 1 (l.map fun (i:Nat)=>nI i)
def R9:List (Nat × List UInt8)→PV
 | []=>.nilslice
 | l=>.slice 2 (l.map fun x=>.agg [nI x.1, .str x.2])
namespace Tg
variable (T:Tg)
def cells:List PV:=[.str T.nm,Gy T.cols,nI T.key,R7 T.uq,T.ck.k,T.ck.nm,T.ck.v0,T.ck.v1,T.ck.v2,T.ck.v3,T.ck.l,R9 T.lk]
def cn (i:Nat):List UInt8:=(T.cols.getD i ([],0,false)).1
def pkT:List UInt8:=kw "primary key (" ++ T.cn T.key++[41]
def uT (i:Nat):List UInt8:=kw "unique (" ++ T.cn i++[41]
def kT:List UInt8:=kw "check (" ++ T.ct++[41]
def lT (x:Nat × List UInt8):List UInt8:=kw "foreign key (" ++ T.cn x.1++kw ") references " ++ x.2
def items:List (List UInt8):=(T.cols.map fun c=>cT c.1 c.2.1 c.2.2)++[T.pkT]++T.uq.map T.uT++(if T.kk=0 then [] else [T.kT])++T.lk.map T.lT
structure Ok:Prop where
 ne:T.cols≠[]
 tot:T.cols.length+T.uq.length+T.lk.length≤900
 c1:∀ c∈T.cols,c.1.length≤100∧c.2.1 < 5
 key:T.key < T.cols.length
 uq:∀ i∈T.uq,i < T.cols.length
 lk:∀ x∈T.lk,x.1 < T.cols.length∧x.2.length≤100
 k:T.ck.k=nI T.kk
 ck:T.ck.ok=true
 ce:T.kk≠0→Ev PG Hl [T.ck.pv] (.str T.ct)
 cl:T.ct.length≤50000
end Tg
theorem Aig:∀ l,((R7 l).clean&&(R7 l).pure)=true
 | []=>rfl
 | i::l=>by
  show (true&&PV.pureL ((i::l).map fun (i:Nat)=>nI i))=true
  have:∀ m:List Nat,PV.pureL (m.map fun (i:Nat)=>nI i)=true:=fun m=>by
   induction m with
   | nil=>rfl
   | cons a m ih=>exact ih
  rw [this];rfl
theorem Ah0:∀ l,((R9 l).clean&&(R9 l).pure)=true
 | []=>rfl
 | i::l=>by
  show (true&&PV.pureL ((i::l).map fun x=>.agg [nI x.1, .str x.2]))=true
  have:∀ m:List (Nat × List UInt8),PV.pureL (m.map fun x=>.agg [nI x.1, .str x.2])=true:=fun m=>by
   induction m with
   | nil=>rfl
   | cons a m ih=>exact ih
  rw [this];rfl
theorem Tg.own {T:Tg} (h:T.Ok) {i:Nat} (hi:i < T.cols.length):Ev PG Aa7 [.agg T.cells,nI i] (.str (T.cn i)):=by
 have hc:T.cols[i]? = some T.cols[i]:=List.getElem?_eq_getElem hi
 have e:T.cn i=T.cols[i].1:=by unfold Tg.cn;rw [List.getD,hc];rfl
 rw [e]
 have hk:=h.ck
 simp only [E7.ok,E7.L,List.all_cons,List.all_nil,Bool.and_true] at hk
 refine Avj (nm:=T.nm) (key:=T.key) ?_ hc
 simp only [List.all_cons,List.all_nil,Aig,Ah0,Bool.and_true,Bool.true_and]
 exact hk
theorem Tg.cn_len {T:Tg} (h:T.Ok) (i:Nat):(T.cn i).length≤100:=by
 unfold Tg.cn
 by_cases hi:i < T.cols.length
 ·rw [List.getD,List.getElem?_eq_getElem hi];exact (h.c1 _ (List.getElem_mem hi)).1
 ·rw [List.getD,List.getElem?_eq_none (by omega)];simp
theorem Abq {g:FuncId} {args:List PV} {t:List UInt8} (h:Ev PG g args (.str t)) {X:Ag} {w:World} (hX:X.Ok w) {vs:Array Value} (h1:vs.size=args.length) (h2:∀ (j:Nat) p,args[j]? = some p→R X p (vs.getD j Go.undef)) :
  Calls PG g vs w fun e w'=>e = .returned (.string ⟨t.toArray⟩)∧Below w.heap.size w w':=by
 refine (h.2 X w vs h1 h2 hX).mono ?_
 rintro e w' ⟨u,X',rfl,hr,hp⟩
 rw [hr.str_inv]
 exact ⟨rfl,Agg hp⟩
theorem Lq (a b:List UInt8):(⟨(a++b).toArray⟩:ByteArray)=⟨a.toArray⟩++⟨b.toArray⟩:=by
 apply ByteArray.ext
 rw [ByteArray.data_append]
 simp
end Go.Proofs.YtdlkibeljkapeaaGreatDoor.Den
namespace Go.Proofs.YtdlkibeljkapeaaGreatDoor.Den
open Go Go.RowKit
open Go.Proofs.SqlSeq (upto joinS Fz E8 Zw Ack Ry Rm Rt P8 P2)
abbrev BA:={s:ByteArray // s.size≤60000}
def E6 (l:List UInt8):BA:=if h:l.length≤60000 then ⟨⟨l.toArray⟩,h⟩ else ⟨⟨#[]⟩,by decide⟩
theorem Ku {l:List UInt8} (h:l.length≤60000):(E6 l).1=⟨l.toArray⟩:=by unfold E6;rw [dif_pos h]
theorem Akh {nm:List UInt8} (hn:nm.length≤100) {t:Nat} (ht:t < 5) (nn:Bool):(cT nm t nn).length≤60000:=by
 have hw:=Xi t ht
 have h9:(kw " not null").length=9:=by decide
 unfold cT
 cases nn with
 | true=>simp only [List.length_append,List.length_cons,List.length_nil,S1,h9];omega
 | false=>simp only [List.length_append,List.length_cons,List.length_nil,S1];omega
theorem Azf:(kw "primary key (").length=13:=by decide
theorem A0i:(kw "unique (").length=8:=by decide
theorem Azm:(kw "check (").length=7:=by decide
theorem Alu:(kw "foreign key (").length=13:=by decide
theorem Alz:(kw ") references ").length=13:=by decide
theorem Aza:(⟨(kw "primary key (").toArray⟩:ByteArray)=Ry:=by decide
theorem Az3:(⟨(kw "unique (").toArray⟩:ByteArray)=Rm:=by decide
theorem A0h:(⟨(kw "check (").toArray⟩:ByteArray)=Rt:=by decide
theorem Azv:(⟨(kw "foreign key (").toArray⟩:ByteArray)=P8:=by decide
theorem Az9:(⟨(kw ") references ").toArray⟩:ByteArray)=P2:=by decide
theorem Abx {α β:Type} (f:α→β) (d:α) (l:List α):upto (fun j=>f (l.getD j d)) l.length=l.map f:=by
 refine List.ext_getElem (by simp [upto]) fun i h1 h2=>?_
 have hi:i < l.length:=by simpa [upto] using h1
 simp [upto,hi]
theorem Ab0 {α β:Type} (f:α→β) (d:α) {l:List α} {j:Nat} (hj:j < l.length):(l.map f)[j]? = some (f (l.getD j d)):=by
 rw [List.getElem?_map,List.getElem?_eq_getElem hj,List.getD,List.getElem?_eq_getElem hj]
 rfl
theorem Aqz {X:Ag} {w:World} (hok:X.Ok w) {l:List Nat} {v:Value} (h:R X (R7 l) v):∃ au n c b o,v = .slice au n c∧n=l.length∧(0 < n→au=some ⟨b,o,none⟩)∧∀ j,j < l.length→w.cell? ⟨b,o+j,none⟩=some (.int .i64 (l.getD j 0:Nat)):=by
 cases l with
 | nil=>cases h;exact ⟨none,0,0,0,0,rfl,rfl,fun h=>absurd h (by omega),fun j hj=>absurd hj (by simp)⟩
 | cons a l =>
  obtain ⟨b,o,cap,rfl,hc⟩:=Z9 hok h
  refine ⟨_,_,cap,b,o,rfl,by simp,fun _=>rfl,fun j hj=>?_⟩
  obtain ⟨u,h1,h2⟩:=hc j (nI ((a::l).getD j 0:Nat)) (Ab0 (fun (i:Nat)=>nI i) 0 hj) 0 _ (by omega) rfl
  rw [show j*1+0=j by omega] at h1
  rw [h2.int_inv] at h1
  exact h1
theorem Arl {X:Ag} {w:World} (hok:X.Ok w) {l:List (Nat × List UInt8)} {v:Value} (h:R X (R9 l) v):∃ au n c b o,v = .slice au n c∧n=l.length∧(0 < n→au=some ⟨b,o,none⟩)∧∀ j,j < l.length→w.cell? ⟨b,o+j*2,none⟩=some (.int .i64 ((l.getD j (0,[])).1:Nat))∧w.cell? ⟨b,o+j*2+1,none⟩=some (.string ⟨(l.getD j (0,[])).2.toArray⟩):=by
 cases l with
 | nil=>cases h;exact ⟨none,0,0,0,0,rfl,rfl,fun h=>absurd h (by omega),fun j hj=>absurd hj (by simp)⟩
 | cons a l =>
  obtain ⟨b,o,cap,rfl,hc⟩:=Z9 hok h
  refine ⟨_,_,cap,b,o,rfl,by simp,fun _=>rfl,fun j hj=>?_⟩
  have hj':((a::l).map fun (x:Nat × List UInt8)=>PV.agg [nI x.1, .str x.2])[j]? = some (.agg [nI ((a::l).getD j (0,[])).1, .str ((a::l).getD j (0,[])).2]):=Ab0 (fun (x:Nat × List UInt8)=>PV.agg [nI x.1, .str x.2]) (0,[]) hj
  obtain ⟨u,h1,h2⟩:=hc j _ hj' 0 _ (by omega) rfl
  obtain ⟨u',h1',h2'⟩:=hc j _ hj' 1 _ (by omega) rfl
  rw [show o+(j*2+0)=o+j*2 by omega] at h1
  rw [show o+(j*2+1)=o+j*2+1 by omega] at h1'
  rw [h2.int_inv] at h1
  rw [h2'.str_inv] at h1'
  exact ⟨h1,h1'⟩
theorem An5 {X:Ag} {w:World} (hok:X.Ok w) {l:List GC} {v:Value} (h:R X (Gy l) v):∃ c b o,v = .slice (some ⟨b,o,none⟩) l.length c∧∀ j,j < l.length→w.cell? ⟨b,o+j*3,none⟩=some (.string ⟨(l.getD j ([],0,false)).1.toArray⟩)∧w.cell? ⟨b,o+j*3+1,none⟩=some (.int .i64 ((l.getD j ([],0,false)).2.1+1:Nat))∧w.cell? ⟨b,o+j*3+2,none⟩=some (.bool (l.getD j ([],0,false)).2.2):=by
 obtain ⟨b,o,cap,rfl,hc⟩:=Z9 hok h
 refine ⟨cap,b,o,by simp,fun j hj=>?_⟩
 have hj':(l.map Ob)[j]? = some (Ob (l.getD j ([],0,false))):=Ab0 Ob ([],0,false) hj
 obtain ⟨u,h1,h2⟩:=hc j _ hj' 0 _ (by omega) rfl
 obtain ⟨u',h1',h2'⟩:=hc j _ hj' 1 _ (by omega) rfl
 obtain ⟨u'',h1'',h2''⟩:=hc j _ hj' 2 _ (by omega) rfl
 rw [show o+(j*3+0)=o+j*3 by omega] at h1
 rw [show o+(j*3+1)=o+j*3+1 by omega] at h1'
 rw [show o+(j*3+2)=o+j*3+2 by omega] at h1''
 rw [h2.str_inv] at h1
 rw [h2'.int_inv] at h1'
 rw [h2''.bool_inv] at h1''
 exact ⟨h1,h1',h1''⟩
theorem Arf {w:World} {b:Nat} {l:List Value} {e:TypeId} {fr:Nat × Nat} (h:w.heap[b]? = some (.cells l.toArray e fr)) (j:Nat) (v:Value) (hj:l[j]? = some v):w.cell? ⟨b,j,none⟩=some v:=by
 unfold World.cell?
 rw [h]
 simp [hj]
theorem Ari {T:Tg} (h:T.Ok):EvS PG Aew [.agg [.fn Afe [] []], .fn Aex [] [.box 0 0]] [.box T.cells] (.str (joinL T.items)) [.box T.cells]:=by
 refine EvS.ofCalls (N1 _ (by kernel_rfl)) fun X w us a1 a2 a3=>?_
 obtain ⟨u1,u2,rfl,r1,r2⟩:=X9 a1 a2
 obtain ⟨bx,cs,e,hmb,hheap,hsz,_,hR,hone,_⟩:=a3.res 0
 have e1:u1 = .agg #[.func (.func 34) #[] #[]]:=by
  cases r1 with
  | agg _ us hs hj _ =>
   obtain ⟨l⟩:=us
   match l,hs with
   | [q],_ =>
    have:=hj 0 _ rfl
    cases this with
    | fn _ _ _ fs ks h1 h2 _ _ =>
     obtain ⟨fl⟩:=fs
     obtain ⟨kl⟩:=ks
     match fl,kl,h1,h2 with
     | [],[],_,_=>rfl
 have e2:u2 = .func (.func 61) #[] #[.pointer (some ⟨bx,0,none⟩)]:=by
  cases r2 with
  | fn _ _ _ fs ks h1 h2 _ hj =>
   obtain ⟨fl⟩:=fs
   obtain ⟨kl⟩:=ks
   match fl,kl,h1,h2 with
   | [],[q],_,_ =>
    have:=hj 0 _ rfl
    cases this with
    | box _ _ b hb=>rw [hmb] at hb;cases hb;rfl
 subst e1 e2
 clear r1 r2 a1 a2
 obtain ⟨l⟩:=cs
 match l,hsz with
 | [v0,v1,v2,v3,v4,v5,v6,v7,v8,v9,v10,v11],_ =>
 have g:=fun (j:Nat) (c:PV) (hc:T.cells[j]? = some c)=>hR j c hc
 have s0:=(g 0 _ rfl).str_inv
 obtain ⟨cap1,b1,o1,s1,hcs⟩:=An5 a3.ok (g 1 _ rfl)
 have s2:=(g 2 _ rfl).int_inv
 obtain ⟨au,nu,cap2,b2,o2,s3,hnu,hau,hus⟩:=Aqz a3.ok (g 3 _ rfl)
 have s4:R X (nI T.kk) v4:=by have:=g 4 _ rfl;rw [h.k] at this;exact this
 have s4:=s4.int_inv
 obtain ⟨al,nl,cap3,b3,o3,s11,hnl,hal,hls⟩:=Arl a3.ok (g 11 _ rfl)
 obtain rfl:v0=_:=s0
 obtain rfl:v1=_:=s1
 obtain rfl:v2=_:=s2
 obtain rfl:v3=_:=s3
 subst s4
 obtain rfl:v11=_:=s11
 have hb1:b1 < w.heap.size:=cell_lt (hcs 0 (by have:=h.ne;cases hh:T.cols with|nil=>exact absurd hh this|cons _ _=>simp)).1
 have hbx:=Arf hheap
 have hbl:bx < w.heap.size:=cell_lt (hbx 0 _ rfl)
 have hon:=fun v (hv:v∈_)=>hone v hv
 have ne0:0 < T.cols.length:=by have:=h.ne;cases hh:T.cols with|nil=>exact absurd hh this|cons _ _=>simp
 let t:Fz:=⟨⟨T.nm.toArray⟩, .slice (some ⟨b1,o1,none⟩) T.cols.length cap1,(T.key:Int), .slice au nu cap2,T.kk,v5,v6,v7,v8,v9,v10, .slice al nl cap3⟩
 have hval:R X (.agg T.cells) t.val:=.agg T.cells _ rfl (fun j c hc=>g j c hc) hon
 have hckv:R X T.ck.pv t.ckV:=by
  refine .agg _ _ rfl (fun j c hc=>?_) (fun v hv=>hon v ?_)
  ·match j,hc with
   | 0,hc=>cases hc;rw [h.k];exact .int _ _
   | 1,hc=>exact g 5 c hc
   | 2,hc=>exact g 6 c hc
   | 3,hc=>exact g 7 c hc
   | 4,hc=>exact g 8 c hc
   | 5,hc=>exact g 9 c hc
   | 6,hc=>exact g 10 c hc
  ·simp only [List.mem_toArray,List.mem_cons,List.not_mem_nil,or_false] at hv ⊢
   rcases hv with rfl|rfl|rfl|rfl|rfl|rfl|rfl<;>simp [t]
 have hat:t.at w bx:=⟨hbx 0 _ rfl,hbx 1 _ rfl,hbx 2 _ rfl,hbx 3 _ rfl,hbx 4 _ rfl,hbx 5 _ rfl,hbx 6 _ rfl,hbx 7 _ rfl,hbx 8 _ rfl,hbx 9 _ rfl,hbx 10 _ rfl,hbx 11 _ rfl⟩
 have hb2:0 < nu→b2 < w.heap.size:=fun hp=>cell_lt (hus 0 (by omega))
 have hb3:0 < nl→b3 < w.heap.size:=fun hp=>cell_lt (hls 0 (by omega)).1
 have htot:=h.tot
 have gd:∀ j,j < T.cols.length→T.cols.getD j ([],0,false)∈T.cols:=fun j hj=>by rw [List.getD,List.getElem?_eq_getElem hj];exact List.getElem_mem hj
 have gu:∀ j,j < T.uq.length→T.uq.getD j 0∈T.uq:=fun j hj=>by rw [List.getD,List.getElem?_eq_getElem hj];exact List.getElem_mem hj
 have gl:∀ j,j < T.lk.length→T.lk.getD j (0,[])∈T.lk:=fun j hj=>by rw [List.getD,List.getElem?_eq_getElem hj];exact List.getElem_mem hj
 have hpkl:T.pkT.length≤60000:=by have:=Tg.cn_len h T.key;unfold Tg.pkT;simp only [List.length_append,Azf,List.length_cons,List.length_nil];omega
 have hul:∀ i,(T.uT i).length≤60000:=fun i=>by have:=Tg.cn_len h i;unfold Tg.uT;simp only [List.length_append,A0i,List.length_cons,List.length_nil];omega
 have hkl:T.kT.length≤60000:=by have:=h.cl;unfold Tg.kT;simp only [List.length_append,Azm,List.length_cons,List.length_nil];omega
 have hll:∀ j,j < T.lk.length→(T.lT (T.lk.getD j (0,[]))).length≤60000:=fun j hj=>by
  have h1:=Tg.cn_len h (T.lk.getD j (0,[])).1
  have h2:=(h.lk _ (gl j hj)).2
  unfold Tg.lT;simp only [List.length_append,Alu,Alz];omega
 have key:=Ack 6 (Nat.le_refl _) #[.pointer (some ⟨bx,0,none⟩)] (T.cols.length+nu+nl+2) (fun x:BA=>x.1)
  (upto (fun j=>E6 (cT (T.cols.getD j ([],0,false)).1 (T.cols.getD j ([],0,false)).2.1 (T.cols.getD j ([],0,false)).2.2)) T.cols.length++[E6 T.pkT]++upto (fun j=>E6 (T.uT (T.uq.getD j 0))) nu++(if T.kk=0 then [] else [E6 T.kT])++upto (fun j=>E6 (T.lT (T.lk.getD j (0,[])))) nl)
  (fun _=>True) (by omega) w (fun x=>x.2) (fun W0 hW0 =>
   Zw 5 (by omega) bx w.heap.size b1 o1 T.cols.length cap1 t rfl b2 o2 au nu cap2 rfl hau b3 o3 al nl cap3 rfl hal (fun x:BA=>x.1)
    (fun j=>(⟨(T.cols.getD j ([],0,false)).1.toArray⟩,((T.cols.getD j ([],0,false)).2.1+1:Nat),(T.cols.getD j ([],0,false)).2.2)) (fun j=>(T.uq.getD j 0:Nat)) (fun j=>((T.lk.getD j (0,[])).1,⟨(T.lk.getD j (0,[])).2.toArray⟩))
    (fun j=>E6 (cT (T.cols.getD j ([],0,false)).1 (T.cols.getD j ([],0,false)).2.1 (T.cols.getD j ([],0,false)).2.2)) (fun j=>E6 (T.uT (T.uq.getD j 0))) (fun j=>E6 (T.lT (T.lk.getD j (0,[])))) (E6 T.pkT) (E6 T.kT)
    hbl hb1 hb2 hb3 (by omega) (by omega) (by omega) _ W0
    (fun j W' hj hb=>by
     have hc:=h.c1 _ (gd j hj)
     rw [Ku (Akh hc.1 hc.2 _)]
     refine Abq (Aoy (by omega) hc.2 _) (Xf a3.ok (hW0.trans hb)) rfl (fun q p hp=>?_)
     match q,hp with
     | 0,hp =>
      cases hp
      refine .agg _ _ rfl (fun q c hc=>?_) (fun v hv=>?_)
      ·match q,hc with
       | 0,hc=>cases hc;exact R.str ⟨(T.cols.getD j ([],0,false)).1.toArray⟩
       | 1,hc=>cases hc;exact .int _ _
       | 2,hc=>cases hc;exact .bool _
      ·simp only [List.mem_toArray,List.mem_cons,List.not_mem_nil,or_false] at hv
       rcases hv with rfl|rfl|rfl<;>rfl)
    (fun i=>⟨(T.cn i.toNat).toArray⟩) (fun i=>by have:=Tg.cn_len h i.toNat;show (T.cn i.toNat).toArray.size≤50000;rw [List.size_toArray];omega) (fun i=>0≤i∧i.toNat < T.cols.length)
    (fun i W' hi hb=>by
     obtain ⟨m,rfl⟩:∃ m:Nat,i=m:=⟨i.toNat,by omega⟩
     refine Abq (Tg.own h (i:=m) (by simpa using hi.2)) (Xf a3.ok (hW0.trans hb)) rfl (fun q p hp=>?_)
     match q,hp with
     | 0,hp=>cases hp;exact hval
     | 1,hp=>cases hp;exact .int _ _)
    ⟨Int.natCast_nonneg _,by show ((T.key:Nat):Int).toNat < _;simpa using h.key⟩ (fun j hj=>⟨Int.natCast_nonneg _,by have:=h.uq _ (gu j (by omega));simpa using this⟩) (fun j hj=>⟨Int.natCast_nonneg _,by have:=(h.lk _ (gl j (by omega))).1;simpa using this⟩)
    ⟨T.ct.toArray⟩ (by show T.ct.toArray.size≤50000;rw [List.size_toArray];exact h.cl)
    (fun hk W' hb=>by
     refine Abq (h.ce hk) (Xf a3.ok (hW0.trans hb)) rfl (fun q p hp=>?_)
     match q,hp with
     | 0,hp=>cases hp;exact hckv)
    (by rw [Ku hpkl];unfold Tg.pkT;rw [Lq,Lq,Aza];rfl) (fun j hj=>by rw [Ku (hul _)];unfold Tg.uT;rw [Lq,Lq,Az3];rfl) (by rw [Ku hkl];unfold Tg.kT;rw [Lq,Lq,A0h])
    (fun j hj=>by rw [Ku (hll j (by omega))];unfold Tg.lT;rw [Lq,Lq,Lq,Azv,Az9];rfl) (fun j hj=>by
     have:=(h.lk _ (gl j (by omega))).2
     show (T.lk.getD j (0,[])).2.toArray.size≤100
     rw [List.size_toArray];exact this)
    hW0.size (hat.below hW0 hbl)
    (fun j hj=>⟨(hW0.cell (p:=⟨b1,_,none⟩) hb1).trans (hcs j hj).1,(hW0.cell (p:=⟨b1,_,none⟩) hb1).trans (hcs j hj).2.1,(hW0.cell (p:=⟨b1,_,none⟩) hb1).trans (hcs j hj).2.2⟩)
    (fun j hj=>(hW0.cell (p:=⟨b2,_,none⟩) (hb2 (by omega))).trans (hus j (by omega)))
    (fun j hj=>⟨(hW0.cell (p:=⟨b3,_,none⟩) (hb3 (by omega))).trans (hls j (by omega)).1,(hW0.cell (p:=⟨b3,_,none⟩) (hb3 (by omega))).trans (hls j (by omega)).2⟩) (Nat.le_refl _))
 have hfin:(upto (fun j=>E6 (cT (T.cols.getD j ([],0,false)).1 (T.cols.getD j ([],0,false)).2.1 (T.cols.getD j ([],0,false)).2.2)) T.cols.length++[E6 T.pkT]++upto (fun j=>E6 (T.uT (T.uq.getD j 0))) nu++(if T.kk=0 then [] else [E6 T.kT])++upto (fun j=>E6 (T.lT (T.lk.getD j (0,[])))) nl).map (fun x:BA=>x.1)=T.items.map fun t=>⟨t.toArray⟩:=by
  subst hnu hnl
  rw [Abx (fun c:GC=>E6 (cT c.1 c.2.1 c.2.2)),Abx (fun i=>E6 (T.uT i)),Abx (fun x=>E6 (T.lT x))]
  unfold Tg.items
  simp only [List.map_append,List.map_map,List.map_cons,List.map_nil,Ku hpkl]
  have m1:T.cols.map ((fun x:BA=>x.1) ∘ fun c:GC=>E6 (cT c.1 c.2.1 c.2.2))=T.cols.map ((fun t:List UInt8=>(⟨t.toArray⟩:ByteArray)) ∘ fun c:GC=>cT c.1 c.2.1 c.2.2):=List.map_congr_left fun c hc=>Ku (Akh (h.c1 c hc).1 (h.c1 c hc).2 _)
  have m2:T.uq.map ((fun x:BA=>x.1) ∘ fun i=>E6 (T.uT i))=T.uq.map ((fun t:List UInt8=>(⟨t.toArray⟩:ByteArray)) ∘ T.uT):=List.map_congr_left fun i _=>Ku (hul i)
  have m3:T.lk.map ((fun x:BA=>x.1) ∘ fun x=>E6 (T.lT x))=T.lk.map ((fun t:List UInt8=>(⟨t.toArray⟩:ByteArray)) ∘ T.lT):=List.map_congr_left fun x hx=>Ku (by
   have h1:=Tg.cn_len h x.1
   have h2:=(h.lk x hx).2
   unfold Tg.lT;simp only [List.length_append,Alu,Alz];omega)
  rw [m1,m2,m3]
  by_cases hk:T.kk=0
  ·simp only [hk,if_true,List.map_nil]
  ·simp only [hk,if_false,List.map_cons,List.map_nil,Ku hkl]
 rw [hfin] at key
 refine ((callsIn_wide (n:=6)).1 key).mono ?_
 rintro e w' ⟨rfl,bel⟩
 exact ⟨⟨_,rfl, .str ⟨_⟩⟩,bel⟩
open Go Go.RowKit
def rgF:Ao:=.st Aew [.agg [.fn Afe [] []], .fn Aex [] [.box 0 0]] [.box Fb] (.atom 22) [.box Fb]
theorem Asz:S7 [sA (.str (kw "create table ")) (.atom 0) (.atom 20),sA (.atom 20) (.str (kw " (")) (.atom 21),rgF,sA (.atom 21) (.atom 22) (.atom 23),sA (.atom 23) (.str (kw ")")) (.atom 24)] (Cf (nI 1) Fb (.str []) (.str []) (.str []) .nilslice E7.zero.L E7.zero.L) (.atom 24)=true:=by kernel_rfl
theorem Aqx {T:Tg} (h:T.Ok) (hn:T.nm.length≤100) (hl:(joinL T.items).length≤60000):Ev PG Kr [Cb 1 T.cells [] [] [] .nilslice E7.zero E7.zero] (.str (kw "create table " ++ T.nm++kw " (" ++ joinL T.items++kw ")")):=by
 have k1:(kw "create table ").length=13:=by decide
 have k2:(kw " (").length=2:=by decide
 have k3:(kw ")").length=1:=by decide
 have hk:=h.ck
 simp only [E7.ok,E7.L,List.all_cons,List.all_nil,Bool.and_true] at hk
 have hgc:((Gy T.cols).clean&&(Gy T.cols).pure)=true:=Abt T.cols
 have hgood:(T.cells.all fun p=>p.clean&&p.pure)=true:=by
  unfold Tg.cells
  simp only [List.all_cons,List.all_nil,Aig,Ah0,hgc,Bool.and_true,Bool.true_and]
  exact hk
 have hpure:PV.pureL T.cells=true:=by
  have:∀ l:List PV,(l.all fun p=>p.clean&&p.pure)=true→PV.pureL l=true:=fun l=>by
   induction l with
   | nil=>intro _;rfl
   | cons a l ih =>
    intro hh
    rw [List.all_cons,Bool.and_eq_true,Bool.and_eq_true] at hh
    show (a.pure&&PV.pureL l)=true
    rw [hh.1.2,ih hh.2];rfl
  exact this _ hgood
 have hnu:Bc (Ab (T.cells++[nI 0,nI 0,nI 0,nI 0,nI 0,nI 0,nI 0,nI 0, .str (kw "create table " ++ T.nm), .str (kw "create table " ++ T.nm++kw " ("), .str (joinL T.items), .str (kw "create table " ++ T.nm++kw " (" ++ joinL T.items), .str (kw "create table " ++ T.nm++kw " (" ++ joinL T.items++kw ")")])):=Ap (by rw [List.all_append,hgood];rfl)
 have hT:subD (Ab (T.cells++[nI 0,nI 0,nI 0,nI 0,nI 0,nI 0,nI 0,nI 0, .str (kw "create table " ++ T.nm), .str (kw "create table " ++ T.nm++kw " ("), .str (joinL T.items), .str (kw "create table " ++ T.nm++kw " (" ++ joinL T.items), .str (kw "create table " ++ T.nm++kw " (" ++ joinL T.items++kw ")")])) (Cf (nI 1) Fb (.str []) (.str []) (.str []) .nilslice E7.zero.L E7.zero.L)=Cb 1 T.cells [] [] [] .nilslice E7.zero E7.zero:=rfl
 have hpp:(Cb 1 T.cells [] [] [] .nilslice E7.zero E7.zero).pure=true:=by
  show PV.pureL (nI 1::(T.cells++_))=true
  simp only [PV.pureL,Oq,hpure]
  rfl
 have:=Ev.facts (args:=[Cf (nI 1) Fb (.str []) (.str []) (.str []) .nilslice E7.zero.L E7.zero.L]) (r:=.atom 24) Af hnu (As Asz)
  ⟨Ax (l:=kw "create table ") (m:=T.nm) rfl rfl (by omega) rfl rfl,Ax (l:=kw "create table " ++ T.nm) (m:=kw " (") rfl rfl (by rw [List.length_append];omega) rfl rfl,Aw (Ari h) rfl rfl rfl rfl rfl,
   Ax (l:=kw "create table " ++ T.nm++kw " (") (m:=joinL T.items) rfl rfl (by simp only [List.length_append];omega) rfl rfl,Ax (l:=kw "create table " ++ T.nm++kw " (" ++ joinL T.items) (m:=kw ")") rfl rfl (by simp only [List.length_append];omega) rfl rfl,trivial⟩
  (Oz hT hpp rfl rfl) rfl
 simp only [List.map_cons,List.map_nil,hT] at this
 exact this
open Go Go.RowKit
def Su:PV→Int
 | .int _ n=>n
 | _=>0
section
variable (b:Tb)
def Tb.tg:Tg:=⟨b.nm,(List.range b.k).map fun i=>(A5 i,b.t i,b.nn i),b.key,(List.range b.u).map b.uq,Su (wX b.ck).k,wX b.ck,(match b.ck with|none=>[]|some e=>e.txt),(List.range b.l).map fun i=>(b.lc i,b.ln i)⟩
end
theorem Al4 {b:Tb} (hb:b.Wf):(wX b.ck).k=nI (Su (wX b.ck).k)∧(b.ck=none→Su (wX b.ck).k=0)∧(∀ e,b.ck=some e→Su (wX b.ck).k≠0):=by
 cases h:b.ck with
 | none=>exact ⟨rfl,fun _=>rfl,fun e he=>by cases he⟩
 | some e =>
  obtain ⟨k,hk,hne⟩:=Y3 e (hb.ck e h).wf
  refine ⟨?_,fun he=>by (cases he),fun e' he=>?_⟩
  ·show e.e7.k=nI (Su e.e7.k)
   rw [hk];rfl
  ·show Su e.e7.k≠0
   rw [hk];exact hne
theorem Ac9 {b:Tb} {i:Nat} (hi:i < b.k):b.tg.cn i=A5 i:=by
 unfold Tg.cn Tb.tg
 simp [hi,List.getD]
theorem Aq4 {b:Tb} (hb:b.Wf):b.tg.cells=b.val:=by
 have hu:=hb.u
 have hl:=hb.l
 have e1:Gy b.tg.cols = .slice 3 ((List.range b.k).map (E8 b.ty b.nn)):=by
  unfold Gy Tb.tg
  rw [List.map_map]
  rfl
 have e2:R7 b.tg.uq=b.uqV b.u:=by
  show R7 ((List.range b.u).map b.uq)=_
  have:b.u=0∨b.u=1∨b.u=2:=by omega
  rcases this with h|h|h<;>rw [h]<;>rfl
 have e3:R9 b.tg.lk=b.lkV b.l:=by
  show R9 ((List.range b.l).map fun i=>(b.lc i,b.ln i))=_
  have:b.l=0∨b.l=1∨b.l=2:=by omega
  rcases this with h|h|h<;>rw [h]<;>rfl
 unfold Tg.cells
 rw [e1,e2,e3]
 rfl
theorem Axg {b:Tb} (hb:b.Wf):b.tg.Ok:=by
 have hk:=hb.k
 have hu:=hb.u
 have hl:=hb.l
 obtain ⟨k1,k2,k3⟩:=Al4 hb
 have lc:b.tg.cols.length=b.k:=by show ((List.range b.k).map _).length=_;simp
 refine ⟨fun h=>?_,?_,fun c hc=>?_,?_,fun i hi=>?_,fun x hx=>?_,k1,D9 b.ck,fun h=>?_,?_⟩
 ·have:=congrArg List.length h
  rw [lc,List.length_nil] at this
  omega
 ·show b.tg.cols.length+((List.range b.u).map b.uq).length+((List.range b.l).map fun i=>(b.lc i,b.ln i)).length≤900
  rw [lc];simp;omega
 ·obtain ⟨i,_,rfl⟩:=List.mem_map.1 hc
  exact ⟨by show (A5 i).length≤100;rw [show (A5 i).length=1 from rfl];omega,hb.t i⟩
 ·rw [lc];exact hb.key
 ·obtain ⟨j,_,rfl⟩:=List.mem_map.1 hi
  rw [lc];exact hb.uq j
 ·obtain ⟨j,_,rfl⟩:=List.mem_map.1 hx
  rw [lc];exact ⟨hb.lc j,by have:=Dv (hb.ln j);show (b.ln j).length≤100;omega⟩
 ·cases hc:b.ck with
  | none=>exact absurd (k2 hc) h
  | some e =>
   have hx:=hb.ck e hc
   have hlen:=hx.len
   have:=(Jz e hx.wf (by omega)).x
   show Ev PG Hl [(wX b.ck).pv] (.str (match b.ck with|none=>[]|some e=>e.txt))
   rw [hc]
   exact this
 ·show (match b.ck with|none=>[]|some e=>e.txt:List UInt8).length≤50000
  cases hc:b.ck with
  | none=>simp
  | some e=>have:=(hb.ck e hc).len;show e.txt.length≤50000;omega
theorem Ah5 (c p:List UInt8) (R:List (List UInt8)):∀ A:List (List UInt8),(A++p::R).flatMap (fun t=>c++t)=c++(A.flatMap (fun t=>t++c)++(p++R.flatMap fun t=>c++t))
 | []=>by simp
 | t::A=>by rw [List.cons_append,List.flatMap_cons,Ah5 c p R A];simp
theorem Ap2 (A:List (List UInt8)) (p:List UInt8) (R:List (List UInt8)) (hA:∀ t∈A,t≠[]) (hp:p≠[]):joinL (A++p::R)=A.flatMap (fun t=>t++[44,32])++(p++R.flatMap fun t=>[44,32]++t):=by
 cases A with
 | nil=>exact Aad _ _ hp
 | cons t A=>rw [List.cons_append,Aad _ _ (hA t (by simp)),Ah5];simp
theorem Agk (b:Tb):∀ k,b.colsT k=((List.range k).map fun i=>cT (A5 i) (b.t i) (b.nn i)).flatMap fun t=>t++[44,32]
 | 0=>rfl
 | k+1=>by
  have h2:kw ", " = [44,32]:=by decide
  rw [List.range_succ,List.map_append,List.flatMap_append,← Agk b k]
  show b.colsT k++b.colT k=_
  unfold Tb.colT cT S1
  rw [h2]
  simp only [List.map_cons,List.map_nil,List.flatMap_cons,List.flatMap_nil]
  cases h:b.nn k<;>simp
theorem Ag4 {b:Tb} (hb:b.Wf):∀ u,b.uqsT u=(((List.range u).map b.uq).map b.tg.uT).flatMap fun t=>[44,32]++t
 | 0=>rfl
 | u+1=>by
  have h1:kw ", unique (" = [44,32]++kw "unique (" := by decide
  have h2:kw ")" = [41]:=by decide
  rw [List.range_succ,List.map_append,List.map_append,List.flatMap_append,← Ag4 hb u]
  show b.uqsT u++b.uqT u=_
  unfold Tb.uqT
  rw [h1,h2]
  simp only [List.map_cons,List.map_nil,List.flatMap_cons,List.flatMap_nil,Tg.uT,Ac9 (hb.uq u)]
  simp
theorem Ahm {b:Tb} (hb:b.Wf):∀ l,b.lksT l=(((List.range l).map fun i=>(b.lc i,b.ln i)).map b.tg.lT).flatMap fun t=>[44,32]++t
 | 0=>rfl
 | l+1=>by
  have h1:kw ", foreign key (" = [44,32]++kw "foreign key (" := by decide
  rw [List.range_succ,List.map_append,List.map_append,List.flatMap_append,← Ahm hb l]
  show b.lksT l++b.lkT l=_
  unfold Tb.lkT
  rw [h1]
  simp only [List.map_cons,List.map_nil,List.flatMap_cons,List.flatMap_nil,Tg.lT,Ac9 (hb.lc l)]
  simp
theorem Asu {b:Tb} (hb:b.Wf):kw "create table " ++ b.nm++kw " (" ++ joinL b.tg.items++kw ")" = b.crT:=by
 obtain ⟨k1,k2,k3⟩:=Al4 hb
 have h2:kw ")" = [41]:=by decide
 have hit:b.tg.items=((List.range b.k).map fun i=>cT (A5 i) (b.t i) (b.nn i))++b.tg.pkT::(((List.range b.u).map b.uq).map b.tg.uT++((if b.tg.kk=0 then [] else [b.tg.kT])++((List.range b.l).map fun i=>(b.lc i,b.ln i)).map b.tg.lT)):=by
  unfold Tg.items
  show ((List.range b.k).map fun i=>(A5 i,b.t i,b.nn i)).map _++_++_++_++_=_
  rw [List.map_map]
  simp only [List.append_assoc,List.cons_append,List.nil_append]
  rfl
 have hck:(if b.tg.kk=0 then [] else [b.tg.kT]:List (List UInt8)).flatMap (fun t=>[44,32]++t)=b.ckT:=by
  have h9:kw ", check (" = [44,32]++kw "check (" := by decide
  unfold Tb.ckT
  cases hc:b.ck with
  | none=>rw [if_pos (show b.tg.kk=0 from k2 hc)];rfl
  | some e =>
   rw [if_neg (show ¬ b.tg.kk=0 from k3 e hc),h9,h2]
   have:b.tg.ct=e.txt:=by show (match b.ck with|none=>[]|some e=>e.txt)=_;rw [hc]
   simp [Tg.kT,this]
 rw [hit,Ap2 _ _ _ (fun t ht=>by
  obtain ⟨i,_,rfl⟩:=List.mem_map.1 ht
  unfold cT
  intro e
  have:=(List.append_eq_nil_iff.1 e).2
  simp at this) (fun e=>by
  unfold Tg.pkT at e
  have:=(List.append_eq_nil_iff.1 e).2
  simp at this),List.flatMap_append,List.flatMap_append,hck,← Agk,← Ag4 hb,← Ahm hb]
 unfold Tb.crT Tb.md Tb.hd Tg.pkT
 rw [Ac9 (b:=b) (i:=b.tg.key) hb.key,h2]
 simp only [List.append_assoc]
 rfl
theorem As9 {b:Tb} (hb:b.Wf):Ev PG Kr [Cb 1 b.val [] [] [] .nilslice E7.zero E7.zero] (.str b.crT):=by
 have hn:=Dv hb.nm
 have hlen:=Ahw b hb
 have hT:=Ye hb
 have hj:=Asu hb
 have hl:(joinL b.tg.items).length≤60000:=by
  have:(Sx.cre b).txt.length=b.crT.length:=by show (B0 b.pcs).length=_;rw [hT]
  have h3:=congrArg List.length hj
  simp only [List.length_append] at h3
  omega
 have:=Aqx (Axg hb) (by show b.nm.length≤100;omega) hl
 rw [Aq4 hb] at this
 rw [← hj]
 exact this
open Go Go.RowKit
theorem Asr {x:Sx} (hx:x.wf):Ev PG Kr [x.pv] (.str x.txt):=by
 match x,hx with
 | .cre b,hx =>
  show Ev PG _ _ (.str (B0 b.pcs))
  rw [Ye hx]
  exact As9 hx
 | .drop nm,hx =>
  have h:=Aq6 hx
  have e:kw "drop table " = kw "drop" ++ ([32]++(kw "table" ++ [32])):=by decide
  rw [e] at h
  have e2:(Sx.drop nm).txt=kw "drop" ++ ([32]++(kw "table" ++ [32]))++nm:=by
   show []++(kw "drop" ++ ([32]++(kw "table" ++ ([32]++(nm++[])))))=_
   simp
  rw [e2];exact h
 | .link nm col dst,hx =>
  have h:=Aqj hx.1 hx.2.1 hx.2.2
  have e:kw "alter table " = kw "alter" ++ ([32]++(kw "table" ++ [32])):=by decide
  have e1:kw " add foreign key (" = [32]++(kw "add" ++ ([32]++(kw "foreign" ++ ([32]++(kw "key" ++ ([32]++[40])))))):=by decide
  have e3:kw ") references " = [41]++([32]++(kw "references" ++ [32])):=by decide
  rw [e,e1,e3] at h
  have e2:(Sx.link nm col dst).txt=kw "alter" ++ ([32]++(kw "table" ++ [32]))++nm++([32]++(kw "add" ++ ([32]++(kw "foreign" ++ ([32]++(kw "key" ++ ([32]++[40])))))))++col++([41]++([32]++(kw "references" ++ [32])))++dst:=by
   show []++(kw "alter" ++ ([32]++(kw "table" ++ ([32]++(nm++([32]++(kw "add" ++ ([32]++(kw "foreign" ++ ([32]++(kw "key" ++ ([32]++([40]++([]++(col++([]++([41]++([32]++(kw "references" ++ ([32]++(dst++[])))))))))))))))))))))=_
   simp
  rw [e2];exact h
 | .ins nm vs,hx =>
  have h:=Asn hx.1 hx.2.1 (by have:=hx.2.2.1;omega) hx.2.2.2 (by have:=Abf vs hx.2.2.2;have:=hx.2.2.1;omega)
  have e:kw "insert into " = kw "insert" ++ ([32]++(kw "into" ++ [32])):=by decide
  have e1:kw " values (" = [32]++(kw "values" ++ ([32]++[40])):=by decide
  have e3:kw ")" = [41]:=by decide
  rw [e,e1,e3] at h
  have e2:(Sx.ins nm vs).txt=kw "insert" ++ ([32]++(kw "into" ++ [32]))++nm++([32]++(kw "values" ++ ([32]++[40])))++Ei vs++[41]:=by
   show B0 ([(false,It.w (kw "insert")),(true, .w (kw "into")),(true, .w nm),(true, .w (kw "values")),(true, .m 2)]++(Gt false vs++[(false, .m 3)]))=_
   rw [F2,F2,Xe vs false hx.2.1]
   show ([]++(kw "insert" ++ ([32]++(kw "into" ++ ([32]++(nm++([32]++(kw "values" ++ ([32]++([40]++[]))))))))))++(([]++Ei vs)++([]++([41]++[])))=_
   simp
  rw [e2];exact h
 | .upd nm col e w,hx =>
  have h:=Ass hx.1 hx.2.1 hx.2.2.1 hx.2.2.2
  have e0:kw "update " = kw "update" ++ [32]:=by decide
  have e1:kw " set " = [32]++(kw "set" ++ [32]):=by decide
  have e3:kw " = " = [32]++([61]++[32]):=by decide
  rw [e0,e1,e3] at h
  have e2:(Sx.upd nm col e w).txt=kw "update" ++ [32]++nm++([32]++(kw "set" ++ [32]))++col++([32]++([61]++[32]))++e.txt++Dq w:=by
   show B0 ([(false,It.w (kw "update")),(true, .w nm),(true, .w (kw "set")),(true, .w col),(true, .m 6),(true, .x e)]++D3 w)=_
   rw [F2,Ht]
   show ([]++(kw "update" ++ ([32]++(nm++([32]++(kw "set" ++ ([32]++(col++([32]++([61]++([32]++(e.txt++[]))))))))))))++Dq w=_
   simp
  rw [e2];exact h
 | .del nm w,hx =>
  have h:=Adn hx.1 hx.2 (k:=0) (by decide)
  have e0:kw (E4 0)=kw "delete" ++ ([32]++(kw "from" ++ [32])):=by decide
  rw [e0] at h
  have e2:(Sx.del nm w).txt=kw "delete" ++ ([32]++(kw "from" ++ [32]))++nm++Dq w:=by
   show B0 ([(false,It.w (kw "delete")),(true, .w (kw "from")),(true, .w nm)]++D3 w)=_
   rw [F2,Ht]
   show ([]++(kw "delete" ++ ([32]++(kw "from" ++ ([32]++(nm++[]))))))++Dq w=_
   simp
  rw [e2];exact h
 | .slc nm w,hx =>
  have h:=Adn hx.1 hx.2 (k:=1) (by decide)
  have e0:kw (E4 1)=kw "select" ++ ([32]++([42]++([32]++(kw "from" ++ [32])))):=by decide
  rw [e0] at h
  have e2:(Sx.slc nm w).txt=kw "select" ++ ([32]++([42]++([32]++(kw "from" ++ [32]))))++nm++Dq w:=by
   show B0 ([(false,It.w (kw "select")),(true, .m 10),(true, .w (kw "from")),(true, .w nm)]++D3 w)=_
   rw [F2,Ht]
   show ([]++(kw "select" ++ ([32]++([42]++([32]++(kw "from" ++ ([32]++(nm++[]))))))))++Dq w=_
   simp
  rw [e2];exact h
 | .cou nm w,hx =>
  have h:=Adn hx.1 hx.2 (k:=2) (by decide)
  have e0:kw (E4 2)=kw "select" ++ ([32]++(kw "count" ++ ([40]++([42]++([41]++([32]++(kw "from" ++ [32]))))))):=by decide
  rw [e0] at h
  have e2:(Sx.cou nm w).txt=kw "select" ++ ([32]++(kw "count" ++ ([40]++([42]++([41]++([32]++(kw "from" ++ [32])))))))++nm++Dq w:=by
   show B0 ([(false,It.w (kw "select")),(true, .w (kw "count")),(false, .m 2),(false, .m 10),(false, .m 3),(true, .w (kw "from")),(true, .w nm)]++D3 w)=_
   rw [F2,Ht]
   show ([]++(kw "select" ++ ([32]++(kw "count" ++ ([]++([40]++([]++([42]++([]++([41]++([32]++(kw "from" ++ ([32]++(nm++[]))))))))))))))++Dq w=_
   simp
  rw [e2];exact h
open Go Go.RowKit
def Qc (fw fc:Bool):List Ao:=[.prim Aaf [] (.bool true), .prim Xg [.atom 33] (.bool fw), .prim Xg [.atom 34] (.bool fc)]
def bkG (q:Bool):List Ao:=[.op (.len Ar) [.atom 2] (.atom 3),oI .gtr (.atom 3) (nI 100) (.bool q)]
def bkM (b:Bool):List Ao:=[.prim Aau [.atom 30, .atom 31, .atom 32, .atom 2, .atom 33, .atom 34] (Eu 100), .prim Kr [Eu 100] (.atom 4), .prim Ll [Eu 100] (.atom 4), .op (.bin .neq Ar) [.atom 4, .atom 4] (.bool false), .op (.len Ar) [.atom 4] (.atom 5),oI .gtr (.atom 5) (nI 4000) (.bool b)]
def bkP (b:Bool):List Ao:=match b with|true=>[.prim Qi [.atom 4] (.tup [Adm,nI 0,nI 11])]|false=>[.prim Qi [.atom 4] (.tup [Eu 100,nI 0,nI 0]), .prim Ub [Eu 100,Eu 100] (.bool true)]
noncomputable abbrev R2 (fs:List Ao):Bool:=A0 (.bool true) (Am PG (Aj An fs) 30 Zx [.atom 30, .atom 31, .atom 32, .atom 2, .atom 33, .atom 34] [])
theorem Av4:(R2 (Qc false true)&&(R2 (Qc true false)&&(R2 (Qc false false)&&R2 (Qc true true++bkG true))))=true:=by kernel_rfl
theorem Ak5:bl (fun b=>R2 (Qc true true++(bkG false++(bkM b++bkP b))))=true:=by kernel_rfl
open Go Go.RowKit
def Mc (s tx:List UInt8) (kd n:Int) (nsv wv cv:PV) (C:List PV):List PV :=
 ([nI 0,nI 0, .str s,nI s.length, .str tx,nI tx.length,nI 0,nI 0,nI 0,nI 0,nI 0,nI 0,nI 0,nI 0,nI 0,nI 0,nI 0,nI 0,nI 0,nI 0,nI 0,nI 0,nI 0,nI 0,nI 0,nI 0,nI 0,nI 0,nI 0,nI 0,nI kd,nI n,nsv,wv,cv]++List.replicate 65 (nI 0))++C
theorem Aci {s tx:List UInt8} {kd n:Int} {nsv wv cv:PV} {C:List PV} (h2:Hz nsv) (h3:Hz wv) (h4:Hz cv) (hC:(C.all fun p=>p.clean&&p.pure)=true):Bc (Ab (Mc s tx kd n nsv wv cv C)):=by
 refine Ap ?_
 unfold Mc
 rw [List.all_append,List.all_append,hC]
 simp only [List.all_cons,h2.1,h3.1,h4.1]
 rfl
theorem Ab8 {nu:Nat→PV} {kd n:Int} {s:List UInt8} {nsv wv cv:PV} (h2:Hz nsv) (h3:Hz wv) (h4:Hz cv) (e0:nu 30=nI kd) (e1:nu 31=nI n) (e2:nu 32=nsv) (e3:nu 33=wv) (e4:nu 34=cv) (e5:nu 2 = .str s) :
  ([PV.atom 30, .atom 31, .atom 32, .atom 2, .atom 33, .atom 34].all fun p=>E2 nu p&&p.shut)=true:=by
 have a2:=h2.1
 have a3:=h3.1
 have a4:=h4.1
 simp only [Bool.and_eq_true] at a2 a3 a4
 simp only [List.all_cons,List.all_nil,E2,subD,C9,e0,e1,e2,e3,e4,e5,a2.2,a3.2,a4.2,h2.2,h3.2,h4.2]
 rfl
set_option maxRecDepth 40000 in
set_option maxHeartbeats 2000000 in
theorem back_ev {nsv:PV} {ns:List Int} (hns:nsv = .slice 1 (ns.map (.int .i64))∨(nsv = .nilslice∧ns=[])) {wn:Nat} {wl:List Au} (hwn:F6 wn wl) (hwo:Au.oks wl) {cn:Nat} {cl:List Au} (hcn:F6 cn cl) (hco:Au.oks cl) (kd n:Int) (st:ByteArray) :
  Ev PG Zx [nI kd,nI n,nsv, .str st.data.toList,A1 wn wl,A1 cn cl] (.bool true):=by
 obtain ⟨s,hs⟩:∃ s,s=st.data.toList:=⟨_,rfl⟩
 rw [← hs]
 have g2:Hz nsv:=Wy hns
 have g3:=Wp wn wl
 have g4:=Wp cn cl
 have hfw:=Akc wn wl hwn hwo
 have hfc:=Akc cn cl hcn hco
 have h0:=Av4
 simp only [Bool.and_eq_true] at h0
 obtain ⟨q1,q2,q3,q4⟩:=h0
 have no:∀ a b,Ik wl=a→Ik cl=b→R2 (Qc a b)=true→Ev PG Zx [nI kd,nI n,nsv, .str s,A1 wn wl,A1 cn cl] (.bool true):=fun a b ha hb hk=>by
  rw [ha] at hfw
  rw [hb] at hfc
  exact Ev.facts (nu:=Ab (Mc s [] kd n nsv (A1 wn wl) (A1 cn cl) [])) (args:=[.atom 30, .atom 31, .atom 32, .atom 2, .atom 33, .atom 34]) (r:=.bool true) Af (Aci g2 g3 g4 rfl) (As hk) ⟨Ai Abu rfl rfl rfl,Ai hfw rfl rfl rfl,Ai hfc rfl rfl rfl,trivial⟩ (Ab8 (s:=s) g2 g3 g4 rfl rfl rfl rfl rfl rfl) rfl
 cases hf:Ik wl with
 | false =>
  cases hg:Ik cl with
  | false=>exact no false false hf hg q3
  | true=>exact no false true hf hg q1
 | true =>
  cases hg:Ik cl with
  | false=>exact no true false hf hg q2
  | true =>
   rw [hf] at hfw
   rw [hg] at hfc
   by_cases h100:(s.length:Int) > 100
   ·exact Ev.facts (nu:=Ab (Mc s [] kd n nsv (A1 wn wl) (A1 cn cl) [])) (args:=[.atom 30, .atom 31, .atom 32, .atom 2, .atom 33, .atom 34]) (r:=.bool true) Af (Aci g2 g3 g4 rfl) (As q4)
     (Ah.append ⟨Ai Abu rfl rfl rfl,Ai hfw rfl rfl rfl,Ai hfc rfl rfl rfl,trivial⟩ ⟨C2 rfl rfl rfl,Av (a:=s.length) (b:=100) (c:=true) rfl rfl rfl (by simp only [Aq];rw [decide_eq_true h100]) (by decide) rfl,trivial⟩) (Ab8 (s:=s) g2 g3 g4 rfl rfl rfl rfl rfl rfl) rfl
   ·obtain ⟨x,hx,hst⟩:=Atj kd n hns (s:=s) (by omega) hwn hwo hf hcn hco hg
    have htx:=Arq hx
    have hqt:=Asr hx
    have htl:=Aow hx
    have hnu:=Aci (s:=s) (tx:=x.txt) (kd:=kd) (n:=n) g2 g3 g4 (Ai5 x)
    have hS:subD (Ab (Mc s x.txt kd n nsv (A1 wn wl) (A1 cn cl) x.cells)) (Eu 100)=x.pv:=by
     rw [Wz]
     exact Ajt (Q6 x) fun i hi=>Akg rfl (by rw [Q6];exact hi) (by rw [Q6];decide)
    have hA:Ah PG (Ab (Mc s x.txt kd n nsv (A1 wn wl) (A1 cn cl) x.cells)) (Qc true true):=⟨Ai Abu rfl rfl rfl,Ai hfw rfl rfl rfl,Ai hfc rfl rfl rfl,trivial⟩
    have hB:Ah PG (Ab (Mc s x.txt kd n nsv (A1 wn wl) (A1 cn cl) x.cells)) (bkG false):=⟨C2 rfl rfl rfl,Av (a:=s.length) (b:=100) (c:=false) rfl rfl rfl (by simp only [Aq];rw [decide_eq_false h100]) (by decide) rfl,trivial⟩
    have hC:∀ q,decide ((x.txt.length:Int) > 4000)=q→Ah PG (Ab (Mc s x.txt kd n nsv (A1 wn wl) (A1 cn cl) x.cells)) (bkM q):=fun q hq =>
     ⟨Ai hst rfl hS rfl,Ai hqt (by show [subD _ (Eu 100)]=_;rw [hS]) rfl rfl,Ai htx (by show [subD _ (Eu 100)]=_;rw [hS]) rfl rfl,
      Hr (l:=x.txt) (m:=x.txt) rfl rfl (by show some (PV.bool (!(x.txt==x.txt)))=_;rw [beq_self_eq_true];rfl) rfl rfl,C2 rfl rfl rfl,Av (a:=x.txt.length) (b:=4000) (c:=q) rfl rfl rfl (by simp only [Aq];rw [hq]) (by decide) rfl,trivial⟩
    have hargs:=Ab8 (nu:=Ab (Mc s x.txt kd n nsv (A1 wn wl) (A1 cn cl) x.cells)) (kd:=kd) (n:=n) (s:=s) g2 g3 g4 rfl rfl rfl rfl rfl rfl
    by_cases h4:(x.txt.length:Int) > 4000
    ·have hk:=Bo Ak5 true
     have hpl:=Aoq (s:=x.txt) (by omega) (by omega)
     exact Ev.facts (args:=[.atom 30, .atom 31, .atom 32, .atom 2, .atom 33, .atom 34]) (r:=.bool true) Af hnu (As hk) (Ah.append hA (Ah.append hB (Ah.append (hC true (decide_eq_true h4)) ⟨Ai hpl rfl rfl rfl,trivial⟩))) hargs rfl
    ·have hk:=Bo Ak5 false
     have hpa:=Ap9 hx (t:=x.txt) (g0:=[]) (g1:=[]) (s:=x.txt) (Aj1 x.pcs) rfl rfl (by simp) (by omega)
     exact Ev.facts (args:=[.atom 30, .atom 31, .atom 32, .atom 2, .atom 33, .atom 34]) (r:=.bool true) Af hnu (As hk) (Ah.append hA (Ah.append hB (Ah.append (hC false (decide_eq_false h4))
      ⟨Ai hpa rfl (by show PV.tup [subD _ (Eu 100),nI 0,nI 0]=_;rw [hS]) rfl,Ai (As4 hx) (by show [subD _ (Eu 100),subD _ (Eu 100)]=_;rw [hS]) rfl rfl,trivial⟩))) hargs rfl
end Go.Proofs.YtdlkibeljkapeaaGreatDoor.Den
