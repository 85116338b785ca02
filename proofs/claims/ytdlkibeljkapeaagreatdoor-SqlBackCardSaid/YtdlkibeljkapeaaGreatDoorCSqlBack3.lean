-- Written by drive.py and pack.py (programs of this proof's own) through the kit's printer; not trusted: Lean checks it.
import Derived.Test.YtdlkibeljkapeaaGreatDoorCSqlBack2
namespace Go.Proofs.YtdlkibeljkapeaaGreatDoor.Den
open Go Go.RowKit
theorem N1 {P:Program} (g:FuncId) (h:(match P.funcs[g]? with|some fn=>!(fn.name == "runtime.NumGoroutine")&&fn.body.isSome|none=>false)=true):∃ fn,P.funcs[g]? = some fn∧(fn.name == "runtime.NumGoroutine")=false∧fn.body.isSome=true:=by
 split at h
 ·rename_i fn hf
  simp only [Bool.and_eq_true,Bool.not_eq_true'] at h
  exact ⟨fn,hf,h.1,h.2⟩
 ·cases h
theorem below_drewN (w:World) (n:Nat):Below w.heap.size w (w.drewN n):=⟨rfl,rfl,rfl,Nat.le_refl _,fun _ _=>rfl⟩
theorem below_grow (w:World) (k:Nat) (os:Array Obj):Below w.heap.size w (Sort.grow (w.drewN k) os):=by
 refine ⟨rfl,rfl,rfl,by show w.heap.size≤(w.heap++os).size;rw [Array.size_append];omega,fun i hi=>?_⟩
 have h:i < (w.drewN k).heap.size:=hi
 show ((w.drewN k).heap++os)[i]? = _
 rw [Array.getElem?_append_left h];rfl
theorem Afv {X:Ag} {w:World} (h:X.Ok w):∃ m,w.cell? ⟨1,0,none⟩=some (.int .i64 m):=by
 obtain ⟨arr,e,fr,h1,_,_,h4⟩:=h.2 1 rfl
 obtain ⟨m,rfl⟩:=h4
 exact ⟨m,by simp [World.cell?,h1]⟩
theorem Apc {X:Ag} {w:World} (h:X.Ok w):Lib.TabIs PG w "internal/strconv.uint64pow10" .u64 Lib.pow10Tab:=by
 obtain ⟨arr,e,fr,h1,_,_,h4⟩:=h.2 0 rfl
 have h4':arr=(Lib.pow10Tab.map fun z=>Value.int .u64 z).toArray:=h4
 have hg:PG.globalNamed "internal/strconv.uint64pow10" = some 0:=by kernel_rfl
 unfold Lib.TabIs World.var?
 rw [hg]
 simp only [Option.bind_some,h1,h4']
abbrev nI (n:Int):PV:=.int .i64 n
theorem Avn (X:Ag) (a b:List UInt8) (c:Bool):R X (.tup [.str a, .str b, .bool c]) (.tuple #[.string ⟨a.toArray⟩, .string ⟨b.toArray⟩, .bool c]):=by
 refine .tup _ _ rfl fun j p hp=>?_
 match j,hp with
 | 0,hp=>cases hp;exact .str ⟨a.toArray⟩
 | 1,hp=>cases hp;exact .str ⟨b.toArray⟩
 | 2,hp=>cases hp;exact .bool c
theorem Aj9 (s sep:List UInt8) (hs:s.length < 4294967281):Ev PG Zv [.str s, .str sep] (.tup [.str (Lib.cut s sep).1, .str (Lib.cut s sep).2.1, .bool (Lib.cut s sep).2.2]):=by
 refine Ev.ofCalls (N1 _ (by kernel_rfl)) fun X w vs a1 a2 a3=>?_
 obtain ⟨u,v,rfl,r1,r2⟩:=X9 a1 a2
 rw [r1.str_inv,r2.str_inv]
 obtain ⟨m,hm⟩:=Afv a3
 refine (Go.Proofs.Tryz.strings_Cut ⟨s.toArray⟩ ⟨sep.toArray⟩ m w (by show s.toArray.size < _;simpa using hs) hm).mono ?_
 rintro e w' ⟨he,n,rfl⟩
 exact ⟨⟨_,he,Avn X _ _ _⟩,below_drewN w n⟩
theorem Acm (n:Int) (h : -9223372036854775808≤n∧n≤9223372036854775807):Ev PG V6 [nI n] (.str (Lib.itoa n)):=by
 refine Ev.ofCalls (N1 _ (by kernel_rfl)) fun X w vs a1 a2 a3=>?_
 obtain ⟨u,rfl,r1⟩:=Ajw a1 a2
 rw [r1.int_inv]
 refine (Go.Proofs.Tryz.strconv_Itoa n h.1 h.2 w (Apc a3)).mono ?_
 rintro e w' ⟨he,k,os,rfl⟩
 exact ⟨⟨_,he, .str ⟨(Lib.itoa n).toArray⟩⟩,below_grow w k os⟩
theorem Ane (s old new:List UInt8) (hs:s.length < 4294967281) (h1:1≤old.length) (hlen:s.length+Lib.countB ⟨s.toArray⟩ ⟨old.toArray⟩*new.length≤140737488355328):Ev PG Aev [.str s, .str old, .str new] (.str (Lib.replaceAll s old new)):=by
 refine Ev.ofCalls (N1 _ (by kernel_rfl)) fun X w vs a1 a2 a3=>?_
 obtain ⟨u,v,t,rfl,r1,r2,r3⟩:=Aic a1 a2
 rw [r1.str_inv,r2.str_inv,r3.str_inv]
 obtain ⟨m,hm⟩:=Afv a3
 refine (Go.Proofs.Tryz.strings_ReplaceAll ⟨s.toArray⟩ ⟨old.toArray⟩ ⟨new.toArray⟩ m w (by show s.toArray.size < _;simpa using hs) hm (by show 1≤old.toArray.size;simpa using h1) (by simpa [ByteArray.size] using hlen)).mono ?_
 rintro e w' ⟨he,bel⟩
 exact ⟨⟨_,he, .str ⟨(Lib.replaceAll s old new).toArray⟩⟩,bel⟩
open Go Go.RowKit
def Ayk (s:List UInt8):Ao:=.prim Zv [.str s, .str [46]] (.tup [.str (Lib.cut s [46]).1, .str (Lib.cut s [46]).2.1, .bool (Lib.cut s [46]).2.2])
def Axr (p:Int × List UInt8):Ao:=.prim V6 [nI p.1] (.str p.2)
open Go Go.RowKit
abbrev oI (op:BinOp) (x y r:PV):Ao:=.op (.bin op Eh) [x,y] r
abbrev nB (c:UInt8):PV:=.int .u8 c.toNat
theorem Ai {nu:Nat→PV} {g:FuncId} {args:List PV} {r:PV} {a:List PV} {b:PV} (h:Ev PG g a b) (h1:args.map (subD nu)=a) (h2:subD nu r=b) (h3:C9 nu r=true):Dz PG nu (.prim g args r):=⟨by rw [h1,h2];exact h,h3⟩
theorem Ov:PG.underlying Ar=some .string:=by kernel_rfl
theorem C2 {nu:Nat→PV} {x r:PV} {s:List UInt8} (h1:subD nu x = .str s) (h2:subD nu r=nI s.length) (h3:C9 nu r=true):Dz PG nu (.op (.len Ar) [x] r):=by
 refine ⟨?_,h3⟩
 show E3 PG Ar (subD nu x)=some (subD nu r)
 rw [h1,h2]
 unfold E3
 rw [Ov]
theorem G4 {nu:Nat→PV} {x i r:PV} {s:List UInt8} {n:Nat} {c:UInt8} (h1:subD nu x = .str s) (h2:subD nu i=nI n) (h3:s[n]? = some c) (h4:subD nu r=nB c) (h5:C9 nu r=true):Dz PG nu (.op (.index Ar) [x,i] r):=by
 refine ⟨?_,h5⟩
 show Pl PG Ar (subD nu x) (subD nu i)=some (subD nu r)
 rw [h1,h2,h4]
 unfold Pl
 rw [Ov]
 show (if (0:Int)≤(n:Int) then (match s[((n:Nat):Int).toNat]? with|some b=>some (PV.int .u8 b.toNat)|none=>none) else none)=_
 rw [if_pos (by omega),Int.toNat_natCast,h3]
theorem Dn {n:Int} (h0 : -9223372036854775808≤n) (h1:n≤9223372036854775807):IntKind.i64.wrap n=n:=Go.IntWalk.i64_in _ ⟨h0,h1⟩
def Zi (g:FuncId):List (Nat × PV):=[(0, .atom 0),(1, .atom 1),(2, .fn g [] [])]
def paA (b:Bool):List Ao:=[.op (.len Ar) [.atom 0] (.atom 2),oI .lss (.atom 1) (.atom 2) (.bool b)]
def Y6 (g:FuncId) (q:Bool):List Ao:=paA true++[.op (.index Ar) [.atom 0, .atom 1] (.atom 3), .prim g [.atom 3] (.bool q),oI .add (.atom 1) (nI 1) (.atom 4)]
noncomputable abbrev Adf (g:FuncId) (fs:List Ao):Option (Ex × St):=Gv PG (Aj An fs) (Am PG (Aj An fs) 5) ((Aj An fs).loop Hm) 5 3 (Du PG Hm 1) ⟨Zi g,[]⟩
theorem Xk:Hj PG Hm 1=true:=by kernel_rfl
def Lr:List FuncId:=[Tm,Wa,Lc,Ao8]
theorem A0g:(Lr.all fun g=>Dc (Adf g (paA false)) (.exit 0) [(1, .atom 1)] [])=true:=by kernel_rfl
theorem Ayz:(Lr.all fun g=>Dc (Adf g (Y6 g false)) (.exit 0) [(1, .atom 1)] [])=true:=by kernel_rfl
theorem Azc:(Lr.all fun g=>Dc (Adf g (Y6 g true)) .normal [(0, .atom 0),(1, .atom 4),(2, .fn g [] [])] [])=true:=by kernel_rfl
theorem Azb:(Lr.all fun g=>A0 (.atom 2) (Am PG (Aj An [.loop Hm 1 [(0, .atom 0),(1, .atom 1),(2, .fn g [] [])] [] (.exit 0) [(1, .atom 2)] []]) 5 Hm [.atom 0, .atom 1, .fn g [] []] []))=true:=by kernel_rfl
set_option maxRecDepth 20000 in
theorem At0 {g:FuncId} (hg:g∈Lr) {p:UInt8→Bool} (hp:∀ c,Ev PG g [nB c] (.bool (p c))) {s:List UInt8} (hs:s.length≤9223372036854775806):∀ (l:List UInt8) (i:Nat),s.drop i=l→i≤s.length →
  By PG (Fq PG Hm) (Du PG Hm 1) [(0, .str s),(1,nI i),(2, .fn g [] [])] [] (.exit 0) [(1,nI (i+(l.takeWhile p).length:Nat))] []:=by
 intro l
 induction l with
 | nil =>
  intro i hi h1
  have hlen:s.length≤i:=by
   have:=congrArg List.length hi
   simp at this;omega
  have hge:¬ ((i:Nat):Int) < (s.length:Int):=by omega
  refine By.leave ?_ (fun h=>by cases h)
  exact Ci.chk (nu:=Ab [.str s,nI i,nI s.length]) Af (Ap rfl) (T:=Zi g) (s:=[]) (T':=[(1, .atom 1)]) (s':=[]) Xk (List.all_eq_true.1 A0g g hg)
   ⟨C2 rfl rfl rfl,Av (c:=false) (a:=i) (b:=s.length) rfl rfl rfl (by simp only [Aq];rw [decide_eq_false hge]) (by decide) rfl,trivial⟩ rfl rfl rfl
 | cons c l ih =>
  intro i hi h1
  have hx:s[i]? = some c:=by
   have:=congrArg (fun z=>z[0]?) hi
   simpa using this
  have hil:i < s.length:=(List.getElem?_eq_some_iff.1 hx).1
  have hl:s.drop (i+1)=l:=by
   have:=congrArg List.tail hi
   simpa using this
  have hlt:((i:Nat):Int) < (s.length:Int):=by omega
  have e4:IntKind.i64.wrap ((i:Int)+1)=((i+1:Nat):Int):=by rw [Dn (by omega) (by omega)];omega
  have hf:∀ q,p c=q→Ah PG (Ab [.str s,nI i,nI s.length,nB c,nI (i+1:Nat)]) (Y6 g q):=fun q hq=>by
   have hpc:=hp c
   rw [hq] at hpc
   unfold Y6 paA
   exact ⟨C2 rfl rfl rfl,Av (c:=true) (a:=i) (b:=s.length) rfl rfl rfl (by simp only [Aq];rw [decide_eq_true hlt]) (by decide) rfl,G4 rfl rfl hx rfl rfl,Ai hpc rfl rfl rfl,Bm (a:=i) (b:=1) rfl rfl rfl (by simp only [Aq];rw [e4]) (by decide) rfl,trivial⟩
  cases hq:p c with
  | false =>
   have e:((c::l).takeWhile p).length=0:=by simp [hq]
   rw [e]
   refine By.leave ?_ (fun h=>by cases h)
   exact Ci.chk (nu:=Ab [.str s,nI i,nI s.length,nB c,nI (i+1:Nat)]) Af (Ap rfl) (T:=Zi g) (s:=[]) (T':=[(1, .atom 1)]) (s':=[]) Xk (List.all_eq_true.1 Ayz g hg) (hf false hq) rfl rfl rfl
  | true =>
   have e:i+((c::l).takeWhile p).length=i+1+(l.takeWhile p).length:=by simp [hq];omega
   rw [e]
   refine By.round ?_ (ih (i+1) hl (by omega))
   exact Ci.chk (nu:=Ab [.str s,nI i,nI s.length,nB c,nI (i+1:Nat)]) Af (Ap rfl) (T:=Zi g) (s:=[]) (T':=[(0, .atom 0),(1, .atom 4),(2, .fn g [] [])]) (s':=[]) Xk (List.all_eq_true.1 Azc g hg) (hf true hq) rfl rfl rfl
theorem Ab7 {g:FuncId} (hg:g∈Lr) {p:UInt8→Bool} (hp:∀ c,Ev PG g [nB c] (.bool (p c))) {s:List UInt8} (hs:s.length≤9223372036854775806) (i:Nat) (hi:i≤s.length) :
  Ev PG Hm [.str s,nI i, .fn g [] []] (nI (i+((s.drop i).takeWhile p).length:Nat)) :=
 Ev.facts (nu:=Ab [.str s,nI i,nI (i+((s.drop i).takeWhile p).length:Nat)]) Af (Ap rfl) (As (List.all_eq_true.1 Azb g hg)) ⟨Ho Xk (Nat.le_refl _) (At0 hg hp hs (s.drop i) i rfl hi) rfl,trivial⟩ rfl rfl
open Go Go.RowKit
def Bf (c:UInt8):Bool:=c==32||c==10
def Hg (c:UInt8):Bool:=decide (97≤c.toNat)&&decide (c.toNat≤122)
def isDigit (c:UInt8):Bool:=decide (48≤c.toNat)&&decide (c.toNat≤57)
def Fo (c:UInt8):Bool:=Hg c||(isDigit c||c==95)
noncomputable def Axi (f:FuncId) (p:UInt8→Bool):Bool:=(List.range 256).all fun c=>A0 (.bool (p (UInt8.ofNat c))) (Am PG I3 5 f [.int .u8 (c:Nat)] [])
theorem X4 {f:FuncId} {p:UInt8→Bool} (h:Axi f p=true) (c:UInt8):Ev PG f [nB c] (.bool (p c)):=by
 have hk:=List.all_eq_true.1 h c.toNat (by rw [List.mem_range];exact c.toNat_lt)
 have e:UInt8.ofNat c.toNat=c:=by simp
 rw [e] at hk
 exact Ev.ofD (nu:=Ab []) (args:=[nB c]) Af (Ap rfl) (Um PG _) (As hk) (fun p hp=>by simp at hp;subst hp;exact ⟨rfl,rfl⟩) rfl rfl
theorem Aru:∀ c,Ev PG Tm [nB c] (.bool (Bf c)):=X4 (by kernel_rfl)
theorem Xd:∀ c,Ev PG Tn [nB c] (.bool (Hg c)):=X4 (by kernel_rfl)
theorem Uk:∀ c,Ev PG Lc [nB c] (.bool (isDigit c)):=X4 (by kernel_rfl)
theorem Aqy:∀ c,Ev PG Wa [nB c] (.bool (Fo c)):=X4 (by kernel_rfl)
def D5 (p:UInt8→Bool) (s:List UInt8) (i:Nat):Nat:=i+((s.drop i).takeWhile p).length
theorem Wl {s:List UInt8} (hs:s.length≤9223372036854775806) (i:Nat) (hi:i≤s.length):Ev PG Hm [.str s,nI i, .fn Tm [] []] (nI (D5 Bf s i)):=Ab7 (by simp [Lr]) Aru hs i hi
theorem Aoo {s:List UInt8} (hs:s.length≤9223372036854775806) (i:Nat) (hi:i≤s.length):Ev PG Hm [.str s,nI i, .fn Wa [] []] (nI (D5 Fo s i)):=Ab7 (by simp [Lr]) Aqy hs i hi
theorem Aak {s:List UInt8} (hs:s.length≤9223372036854775806) (i:Nat) (hi:i≤s.length):Ev PG Hm [.str s,nI i, .fn Lc [] []] (nI (D5 isDigit s i)):=Ab7 (by simp [Lr]) Uk hs i hi
theorem Jb (l m:List UInt8):L8 .eql l m=some (.bool (l==m)):=rfl
theorem Hr {nu:Nat→PV} {op:BinOp} {x y r:PV} {l m:List UInt8} {p:PV} (h1:subD nu x = .str l) (h2:subD nu y = .str m) (h:L8 op l m=some p) (h3:subD nu r=p) (h4:C9 nu r=true):Dz PG nu (.op (.bin op Ar) [x,y] r):=by
 refine ⟨?_,h4⟩
 show F5 PG op Ar (subD nu x) (subD nu y)=some (subD nu r)
 rw [h1,h2,h3,← h]
 cases op<;>rfl
def coF (i:Nat) (b:Bool):List Ao:=(List.range (if b then i+1 else i)).map fun j=>.op (.bin .eql Ar) [.atom 0, .str (Bq.getD j [])] (.bool (decide (j=i)))
def Ads (i:Nat) (b:Bool):List Ao:=(List.range (if b then i+1 else i)).map fun j=>.op (.bin .eql Ar) [.str (Bq.getD j []), .atom 0] (.bool (decide (j=i)))
theorem Azy:((List.range 33).all fun i=>A0 (.bool true) (Am PG (Aj An (coF i true++Ads i true)) 40 Vy [Ij Bq, .atom 0] []))=true:=by kernel_rfl
theorem Axm:A0 (.bool false) (Am PG (Aj An (coF 33 false++Ads 33 false)) 40 Vy [Ij Bq, .atom 0] [])=true:=by kernel_rfl
open Go Go.RowKit
theorem Agr:Bq.length=33:=by decide +kernel
theorem Ake {w:List UInt8} {i:Nat} {b:Bool} (h:∀ j,j < (if b then i+1 else i)→(Bq.getD j []==w)=decide (j=i)):Ah PG (Ab [.str w]) (coF i b++Ads i b):=by
 refine Ah.append (Ah.of fun f hf=>?_) (Ah.of fun f hf=>?_)
 ·obtain ⟨j,hj,rfl⟩:=List.mem_map.1 hf
  rw [List.mem_range] at hj
  have:=h j hj
  refine Hr (l:=w) (m:=Bq.getD j []) rfl rfl (Jb _ _) ?_ rfl
  show PV.bool _=_
  rw [← this]
  congr 1
  exact Bool.eq_iff_iff.2 (by simp only [beq_iff_eq];exact eq_comm)
 ·obtain ⟨j,hj,rfl⟩:=List.mem_map.1 hf
  rw [List.mem_range] at hj
  have:=h j hj
  refine Hr (l:=Bq.getD j []) (m:=w) rfl rfl (Jb _ _) ?_ rfl
  show PV.bool _=_
  rw [← this]
theorem An1 (w:List UInt8):Ev PG Vy [Ij Bq, .str w] (.bool (Bq.contains w)):=by
 by_cases hc:∃ i,i < 33∧Bq.getD i []=w
 ·obtain ⟨i,hi,hw⟩:∃ i,(i < 33∧Bq.getD i []=w)∧∀ j,j < i→¬ Bq.getD j []=w:=by
   obtain ⟨i,hi⟩:=hc
   induction i using Nat.strongRecOn with
   | _ i ih =>
    by_cases hm:∃ j,j < i∧Bq.getD j []=w
    ·obtain ⟨j,h1,h2⟩:=hm;exact ih j h1 ⟨by omega,h2⟩
    ·exact ⟨i,hi,fun j h1 h2=>hm ⟨j,h1,h2⟩⟩
  have e:Bq.contains w=true:=by
   rw [List.contains_iff_mem,← hi.2,List.getD_eq_getElem?_getD,List.getElem?_eq_getElem (by rw [Agr];exact hi.1)]
   exact List.getElem_mem _
  rw [e]
  refine Ev.facts (nu:=Ab [.str w]) (args:=[Ij Bq, .atom 0]) Af (Ap rfl) (As (List.all_eq_true.1 Azy i (by rw [List.mem_range];exact hi.1))) (Ake fun j hj=>?_) rfl rfl
  rw [if_pos rfl] at hj
  by_cases hji:j=i
  ·subst hji;rw [hi.2];simp
  ·have:=hw j (by omega)
   rw [decide_eq_false hji];exact beq_eq_false_iff_ne.2 this
 ·have e:Bq.contains w=false:=by
   rw [Bool.eq_false_iff]
   intro h
   rw [List.contains_iff_mem] at h
   obtain ⟨i,hi,hw⟩:=List.getElem_of_mem h
   exact hc ⟨i,by rw [Agr] at hi;exact hi,by rw [List.getD_eq_getElem?_getD,List.getElem?_eq_getElem hi,Option.getD_some,hw]⟩
  rw [e]
  refine Ev.facts (nu:=Ab [.str w]) (args:=[Ij Bq, .atom 0]) Af (Ap rfl) (As Axm) (Ake fun j hj=>?_) rfl rfl
  have hj':j < 33:=by simpa using hj
  have h1:¬ Bq.getD j []=w:=fun h=>hc ⟨j,hj',h⟩
  have h2:¬ j=33:=by omega
  rw [decide_eq_false h2];exact beq_eq_false_iff_ne.2 h1
open Go Go.RowKit
def H7 (k a w v0 v1 v2 v3 e:PV):PV:=.agg [k,a,w,v0,v1,v2,v3,e]
def Ir (k at_:Int) (w:List UInt8) (e:Int):PV:=H7 (nI k) (nI at_) (.str w) (nI 0) (nI 0) (nI 0) (.str []) (nI e)
theorem Pe {nu:Nat→PV} {x lo hi r:PV} {s w:List UInt8} {i j:Nat} (h1:subD nu x = .str s) (h2:subD nu lo=nI i) (h3:subD nu hi=nI j) (hij:i≤j∧j≤s.length) (hw:(s.take j).drop i=w) (h4:subD nu r = .str w) (h5:C9 nu r=true):Dz PG nu (.op (.slice Ar true true) [x,lo,hi] r):=by
 refine ⟨?_,h5⟩
 show Gq PG Ar (subD nu x) (some (subD nu lo)) (some (subD nu hi))=some (subD nu r)
 rw [h1,h2,h3,h4]
 unfold Gq
 rw [Ov]
 have e1:Kv (some (nI j)) s.length s.length=some j:=by
  show (if 0≤(j:Int)∧(j:Int)≤(s.length:Int) then some ((j:Int).toNat) else none)=_
  rw [if_pos (by omega),Int.toNat_natCast]
 have e2:Kv (some (nI i)) j 0=some i:=by
  show (if 0≤(i:Int)∧(i:Int)≤(j:Int) then some ((i:Int).toNat) else none)=_
  rw [if_pos (by omega),Int.toNat_natCast]
 simp only [Lp,e1,e2,hw]
theorem Uj {nu:Nat→PV} {x lo r:PV} {s w:List UInt8} {i:Nat} (h1:subD nu x = .str s) (h2:subD nu lo=nI i) (hij:i≤s.length) (hw:s.drop i=w) (h4:subD nu r = .str w) (h5:C9 nu r=true):Dz PG nu (.op (.slice Ar true false) [x,lo] r):=by
 refine ⟨?_,h5⟩
 show Gq PG Ar (subD nu x) (some (subD nu lo)) none=some (subD nu r)
 rw [h1,h2,h4]
 unfold Gq
 rw [Ov]
 have e1:Kv none s.length s.length=some s.length:=rfl
 have e2:Kv (some (nI i)) s.length 0=some i:=by
  show (if 0≤(i:Int)∧(i:Int)≤(s.length:Int) then some ((i:Int).toNat) else none)=_
  rw [if_pos (by omega),Int.toNat_natCast]
 simp only [Lp,e1,e2,List.take_length,hw]
theorem Ef {nu:Nat→PV} {op:BinOp} {x y r:PV} {a b:Int} {p:PV} (hx:subD nu x = .int .u8 a) (hy:subD nu y = .int .u8 b) (h:Aq op .u8 a b=some p) (hr:subD nu r=p) (hs:op≠.shl∧op≠.shr) (h1:C9 nu r=true):Dz PG nu (.op (.bin op Ey) [x,y] r):=by
 refine ⟨?_,h1⟩
 show F5 PG op Ey (subD nu x) (subD nu y)=some (subD nu r)
 rw [hx,hy,hr,← h]
 cases op<;>first|rfl|exact absurd rfl hs.1|exact absurd rfl hs.2
theorem Ace (p:UInt8→Bool) (s:List UInt8) (i:Nat) (hi:i≤s.length):i≤D5 p s i∧D5 p s i≤s.length:=by
 unfold D5
 have h:(s.drop i).takeWhile p <+: s.drop i:=List.takeWhile_prefix p
 have:=h.length_le
 rw [List.length_drop] at this
 omega
theorem Apd (p:UInt8→Bool) (s:List UInt8) (i:Nat):(s.take (D5 p s i)).drop i=(s.drop i).takeWhile p:=by
 unfold D5
 rw [List.drop_take,Nat.add_sub_cancel_left]
 have h:(s.drop i).takeWhile p <+: s.drop i:=List.takeWhile_prefix p
 exact (List.prefix_iff_eq_take.1 h).symm
def leF (b q : Bool) : List Ao :=
  [.prim Hm [.atom 0, .atom 1, .fn Wa [] []] (.atom 2), .op (.slice Ar true true) [.atom 0, .atom 1, .atom 2] (.atom 3), .prim Ws [] (Ij Bq), .prim Vy [Ij Bq, .atom 3] (.bool b),
   .op (.len Ar) [.atom 3] (.atom 4), oI .gtr (.atom 4) (nI 12) (.bool q)]
def Jo (a:PV):PV:=H7 (nI 0) a (.str []) (nI 0) (nI 0) (nI 0) (.str []) (nI 0)
def leR (b q:Bool):PV:=.tup [H7 (nI (if b then 1 else 2)) (.atom 1) (.atom 3) (nI 0) (nI 0) (nI 0) (.str []) (nI (if q then 11 else 0)), .atom 2]
theorem Azg:(bl fun b=>bl fun q=>A0 (leR b q) (Am PG (Aj An (leF b q)) 10 V9 [.atom 0,Jo (.atom 1)] []))=true:=by kernel_rfl
def wordAt (s:List UInt8) (i:Nat):List UInt8:=(s.drop i).takeWhile Fo
theorem Aog {s:List UInt8} (hs:s.length≤9223372036854775806) (i:Nat) (hi:i≤s.length) :
  Ev PG V9 [.str s,Ir 0 i [] 0] (.tup [Ir (if Bq.contains (wordAt s i) then 1 else 2) i (wordAt s i) (if 12 < (wordAt s i).length then 11 else 0),nI (D5 Fo s i:Nat)]):=by
 have hb:=Ace Fo s i hi
 have hk:=As (Bo (Bo Azg (Bq.contains (wordAt s i))) (decide (((wordAt s i).length:Int) > 12)))
 have:=Ev.facts (nu:=Ab [.str s,nI i,nI (D5 Fo s i:Nat), .str (wordAt s i),nI (wordAt s i).length]) Af (Ap rfl) hk
  ⟨Ai (Aoo hs i hi) rfl rfl rfl,Pe rfl rfl rfl hb (Apd _ _ _) rfl rfl,Ai Aiu rfl rfl rfl,Ai (An1 _) rfl rfl rfl,C2 rfl rfl rfl,Av rfl rfl rfl rfl (by decide) rfl,trivial⟩ rfl (by cases Bq.contains (wordAt s i)<;>cases decide (((wordAt s i).length:Int) > 12)<;>rfl)
 have e1:(if 12 < (wordAt s i).length then (11:Int) else 0)=if decide (((wordAt s i).length:Int) > 12) then 11 else 0:=by
  by_cases h:12 < (wordAt s i).length
  ·rw [if_pos h,decide_eq_true (by omega)];rfl
  ·rw [if_neg h,decide_eq_false (by omega)];rfl
 rw [e1]
 exact this
open Go Go.RowKit
abbrev V4:=Int × Int × Int × List UInt8
structure Sg where
 k:Int
 a:Int
 w:List UInt8
 v:V4
 e:Int
def Sg.pv (x:Sg):PV:=H7 (nI x.k) (nI x.a) (.str x.w) (nI x.v.1) (nI x.v.2.1) (nI x.v.2.2.1) (.str x.v.2.2.2) (nI x.e)
def v0:V4:=(0,0,0,[])
abbrev bI (op:BinOp) (x:PV) (n:Int) (b:Bool):Ao:=.op (.bin op Ey) [x, .int .u8 n] (.bool b)
def Zn:List Ao:=[.prim Hm [.atom 0, .atom 1, .fn Tm [] []] (.atom 2), .op (.len Ar) [.atom 0] (.atom 3),oI .eql (.atom 2) (.atom 3) (.bool false), .op (.index Ar) [.atom 0, .atom 2] (.atom 4)]
def rdX:Nat→List Ao
 | 0=>[bI .eql (.atom 4) 120 false]
 | 1=>[bI .eql (.atom 4) 120 true,oI .add (.atom 2) (nI 1) (.atom 5),oI .lss (.atom 5) (.atom 3) (.bool false)]
 | _=>[bI .eql (.atom 4) 120 true,oI .add (.atom 2) (nI 1) (.atom 5),oI .lss (.atom 5) (.atom 3) (.bool true), .op (.index Ar) [.atom 0, .atom 5] (.atom 6),bI .eql (.atom 6) 39 false]
def Ss:PV:=.tup [H7 (.atom 7) (.atom 8) (.atom 9) (.atom 10) (.atom 11) (.atom 12) (.atom 13) (.atom 14), .atom 15]
def rdS:Nat→List Ao
 | 0=>[.prim Tn [.atom 4] (.bool true), .prim V9 [.atom 0,Jo (.atom 2)] Ss]
 | 1=>[.prim Tn [.atom 4] (.bool false), .prim Lc [.atom 4] (.bool true), .prim Tf [.atom 0,Jo (.atom 2)] Ss]
 | _=>[.prim Tn [.atom 4] (.bool false), .prim Lc [.atom 4] (.bool false),bI .eql (.atom 4) 39 true, .prim Kq [.atom 0,Jo (.atom 2)] Ss]
theorem Ay8:((List.range 3).all fun v=>(List.range 3).all fun w=>A0 Ss (Am PG (Aj An (Zn++(rdX v++rdS w))) 20 Iw [.atom 0, .atom 1] []))=true:=by kernel_rfl
def Vh (s:List UInt8) (i i':Nat) (c c2:UInt8) (x:Sg) (te:Nat):List PV :=
 [.str s,nI i,nI i',nI s.length,nB c,nI (i'+1:Nat),nB c2,nI x.k,nI x.a, .str x.w,nI x.v.1,nI x.v.2.1,nI x.v.2.2.1, .str x.v.2.2.2,nI x.e,nI te]
theorem Gz {c:UInt8} {n:Nat} {b:Bool} (hn:n < 256) (h:(c==UInt8.ofNat n)=b):Aq .eql .u8 (c.toNat:Int) (n:Int)=some (.bool b):=by
 show some (PV.bool (((c.toNat:Nat):Int)==(n:Int)))=_
 rw [← h]
 congr 2
 refine Bool.eq_iff_iff.2 ?_
 simp only [beq_iff_eq]
 constructor
 ·intro h'
  have h2:c.toNat=n:=by omega
  rw [← h2];simp
 ·intro h'
  rw [h']
  simp only [UInt8.toNat_ofNat']
  omega
theorem Xn {s:List UInt8} (hs:s.length≤9223372036854775806) (i:Nat) (hi:i≤s.length) {c:UInt8} (hc:s[D5 Bf s i]? = some c) (hx:c=120→s[D5 Bf s i+1]? ≠ some 39) {x:Sg} {te:Nat}
  (h:(Hg c=true∧Ev PG V9 [.str s,Ir 0 (D5 Bf s i:Nat) [] 0] (.tup [x.pv,nI te])) ∨
   (isDigit c=true∧Ev PG Tf [.str s,Ir 0 (D5 Bf s i:Nat) [] 0] (.tup [x.pv,nI te])) ∨
   (c=39∧Ev PG Kq [.str s,Ir 0 (D5 Bf s i:Nat) [] 0] (.tup [x.pv,nI te]))):Ev PG Iw [.str s,nI i] (.tup [x.pv,nI te]):=by
 generalize hi':D5 Bf s i=i' at *
 have hb:=Ace Bf s i hi
 rw [hi'] at hb
 have hil:i' < s.length:=(List.getElem?_eq_some_iff.1 hc).1
 have hp:=Wl hs i hi
 rw [hi'] at hp
 have hne:¬ (i':Int)=(s.length:Int):=by omega
 obtain ⟨c2,hc2⟩:∃ c2:UInt8,(i'+1 < s.length→s[i'+1]? = some c2):=by
  by_cases h1:i'+1 < s.length
  ·exact ⟨s[i'+1],fun _=>List.getElem?_eq_getElem h1⟩
  ·exact ⟨0,fun h=>absurd h h1⟩
 have e5:IntKind.i64.wrap ((i':Int)+1)=((i'+1:Nat):Int):=by rw [Dn (by omega) (by omega)];omega
 have fB:Ah PG (Ab (Vh s i i' c c2 x te)) Zn:=⟨Ai hp rfl rfl rfl,C2 rfl rfl rfl,Av (c:=false) (a:=i') (b:=s.length) rfl rfl rfl (by show some (PV.bool ((i':Int)==(s.length:Int)))=_;rw [beq_eq_false_iff_ne.2 hne]) (by decide) rfl,G4 rfl rfl hc rfl rfl,trivial⟩
 have fX:∃ v,v < 3∧Ah PG (Ab (Vh s i i' c c2 x te)) (rdX v):=by
  by_cases h1:c=120
  ·subst h1
   by_cases h2:i'+1 < s.length
   ·refine ⟨2,by decide,Ef (a:=(120:Nat)) (b:=(120:Nat)) rfl rfl (Gz (c:=120) (n:=120) (b:=true) (by decide) rfl) rfl (by decide) rfl,Bm (a:=i') (b:=1) rfl rfl rfl (by simp only [Aq];rw [e5]) (by decide) rfl,
     Av (c:=true) (a:=(i'+1:Nat)) (b:=s.length) rfl rfl rfl (by simp only [Aq];rw [decide_eq_true (by omega)]) (by decide) rfl,G4 (s:=s) (n:=i'+1) (c:=c2) rfl rfl (hc2 h2) rfl rfl,?_,trivial⟩
    have h3:c2≠39:=fun e=>hx rfl (by rw [hc2 h2,e])
    exact Ef (a:=(c2.toNat:Nat)) (b:=(39:Nat)) rfl rfl (Gz (c:=c2) (n:=39) (b:=false) (by decide) (beq_eq_false_iff_ne.2 h3)) rfl (by decide) rfl
   ·exact ⟨1,by decide,Ef (a:=(120:Nat)) (b:=(120:Nat)) rfl rfl (Gz (c:=120) (n:=120) (b:=true) (by decide) rfl) rfl (by decide) rfl,Bm (a:=i') (b:=1) rfl rfl rfl (by simp only [Aq];rw [e5]) (by decide) rfl,
     Av (c:=false) (a:=(i'+1:Nat)) (b:=s.length) rfl rfl rfl (by simp only [Aq];rw [decide_eq_false (by omega)]) (by decide) rfl,trivial⟩
  ·exact ⟨0,by decide,Ef (a:=(c.toNat:Nat)) (b:=(120:Nat)) rfl rfl (Gz (c:=c) (n:=120) (b:=false) (by decide) (beq_eq_false_iff_ne.2 h1)) rfl (by decide) rfl,trivial⟩
 obtain ⟨v,hv,fX⟩:=fX
 have fin:∀ w,w < 3→Ah PG (Ab (Vh s i i' c c2 x te)) (rdS w)→Ev PG Iw [.str s,nI i] (.tup [x.pv,nI te]):=fun w hw fS =>
  Ev.facts (nu:=Ab (Vh s i i' c c2 x te)) (args:=[.atom 0, .atom 1]) Af (Ap rfl) (As (List.all_eq_true.1 (List.all_eq_true.1 Ay8 v (by rw [List.mem_range];exact hv)) w (by rw [List.mem_range];exact hw))) (Ah.append fB (Ah.append fX fS)) rfl rfl
 rcases h with ⟨h1,h2⟩|⟨h1,h2⟩|⟨h1,h2⟩
 ·have hsm:=Xd c
  rw [h1] at hsm
  exact fin 0 (by decide) ⟨Ai hsm rfl rfl rfl,Ai h2 rfl rfl rfl,trivial⟩
 ·have h3:Hg c=false:=by
   simp only [isDigit,Hg,Bool.and_eq_true,decide_eq_true_eq] at h1 ⊢
   rw [decide_eq_false (by omega)];rfl
  have hsm:=Xd c
  have hdg:=Uk c
  rw [h3] at hsm
  rw [h1] at hdg
  exact fin 1 (by decide) ⟨Ai hsm rfl rfl rfl,Ai hdg rfl rfl rfl,Ai h2 rfl rfl rfl,trivial⟩
 ·subst h1
  have hsm:=Xd 39
  have hdg:=Uk 39
  rw [show Hg 39=false from rfl] at hsm
  rw [show isDigit 39=false from rfl] at hdg
  exact fin 2 (by decide) ⟨Ai hsm rfl rfl rfl,Ai hdg rfl rfl rfl,Ef (a:=(39:Nat)) (b:=(39:Nat)) rfl rfl (Gz (c:=39) (n:=39) (b:=true) (by decide) rfl) rfl (by decide) rfl,Ai h2 rfl rfl rfl,trivial⟩
open Go Go.RowKit
def hpF (b:Bool) (q:Bool):List Ao:=[.op (.len Ar) [.atom 0] (.atom 2), .op (.len Ar) [.atom 1] (.atom 3),oI .geq (.atom 2) (.atom 3) (.bool b), .op (.slice Ar false true) [.atom 0, .atom 3] (.atom 4), .op (.bin .eql Ar) [.atom 4, .atom 1] (.bool q)]
theorem Aye:(bl fun q=>A0 (.bool q) (Am PG (Aj An (hpF true q)) 10 Td [.atom 0, .atom 1] []))=true:=by kernel_rfl
theorem Axq:A0 (.bool false) (Am PG (Aj An [.op (.len Ar) [.atom 0] (.atom 2), .op (.len Ar) [.atom 1] (.atom 3),oI .geq (.atom 2) (.atom 3) (.bool false)]) 10 Td [.atom 0, .atom 1] [])=true:=by kernel_rfl
theorem Ug {nu:Nat→PV} {x hi r:PV} {s w:List UInt8} {j:Nat} (h1:subD nu x = .str s) (h3:subD nu hi=nI j) (hij:j≤s.length) (hw:s.take j=w) (h4:subD nu r = .str w) (h5:C9 nu r=true):Dz PG nu (.op (.slice Ar false true) [x,hi] r):=by
 refine ⟨?_,h5⟩
 show Gq PG Ar (subD nu x) none (some (subD nu hi))=some (subD nu r)
 rw [h1,h3,h4]
 unfold Gq
 rw [Ov]
 have e1:Kv (some (nI j)) s.length s.length=some j:=by
  show (if 0≤(j:Int)∧(j:Int)≤(s.length:Int) then some ((j:Int).toNat) else none)=_
  rw [if_pos (by omega),Int.toNat_natCast]
 have e2:Kv none j 0=some 0:=rfl
 simp only [Lp,e1,e2,List.drop_zero,hw]
theorem Afa (a m:List UInt8):Ev PG Td [.str a, .str m] (.bool (m.isPrefixOf a)):=by
 by_cases h:m.length≤a.length
 ·have e:m.isPrefixOf a=(a.take m.length==m):=by
   refine Bool.eq_iff_iff.2 ?_
   rw [List.isPrefixOf_iff_prefix,List.prefix_iff_eq_take,beq_iff_eq]
   exact eq_comm
  rw [e]
  exact Ev.facts (nu:=Ab [.str a, .str m,nI a.length,nI m.length, .str (a.take m.length)]) Af (Ap rfl) (As (Bo Aye (a.take m.length==m)))
   ⟨C2 rfl rfl rfl,C2 rfl rfl rfl,Av (c:=true) (a:=a.length) (b:=m.length) rfl rfl rfl (by simp only [Aq];rw [decide_eq_true (by omega)]) (by decide) rfl,Ug rfl rfl h rfl rfl rfl,Hr (l:=a.take m.length) (m:=m) rfl rfl (Jb _ _) rfl rfl,trivial⟩ rfl rfl
 ·have e:m.isPrefixOf a=false:=by
   rw [Bool.eq_false_iff]
   intro h'
   have:=(List.isPrefixOf_iff_prefix.1 h').length_le
   omega
  rw [e]
  exact Ev.facts (nu:=Ab [.str a, .str m,nI a.length,nI m.length]) (args:=[.atom 0, .atom 1]) Af (Ap rfl) (As Axq)
   ⟨C2 rfl rfl rfl,C2 rfl rfl rfl,Av (c:=false) (a:=a.length) (b:=m.length) rfl rfl rfl (by simp only [Aq];rw [decide_eq_false (by omega)]) (by decide) rfl,trivial⟩ rfl rfl
theorem Azw:A0 (.tup [Jo (.atom 2), .atom 2]) (Am PG (Aj An [.prim Hm [.atom 0, .atom 1, .fn Tm [] []] (.atom 2), .op (.len Ar) [.atom 0] (.atom 3),oI .eql (.atom 2) (.atom 3) (.bool true)]) 20 Iw [.atom 0, .atom 1] [])=true:=by kernel_rfl
theorem Ar2 {s:List UInt8} (hs:s.length≤9223372036854775806) (i:Nat) (hi:i≤s.length) (h:D5 Bf s i=s.length):Ev PG Iw [.str s,nI i] (.tup [Ir 0 s.length [] 0,nI s.length]):=by
 have hp:=Wl hs i hi
 rw [h] at hp
 exact Ev.facts (nu:=Ab [.str s,nI i,nI s.length,nI s.length]) Af (Ap rfl) (As Azw) ⟨Ai hp rfl rfl rfl,C2 rfl rfl rfl,Av (c:=true) (a:=s.length) (b:=s.length) rfl rfl rfl (by simp only [Aq];simp) (by decide) rfl,trivial⟩ rfl rfl
def rmF (i:Nat):List Ao :=
 Zn++([bI .eql (.atom 4) 120 false, .prim Tn [.atom 4] (.bool false), .prim Lc [.atom 4] (.bool false),bI .eql (.atom 4) 39 false, .prim We [] (Ij Pi), .op (.slice Ar true false) [.atom 0, .atom 2] (.atom 5),oI .add (.atom 2) (nI 1) (.atom 6),oI .add (.atom 2) (nI 2) (.atom 7)] ++
  (List.range (if i < 11 then i+1 else 11)).map fun j=>.prim Td [.atom 5, .str (Pi.getD j [])] (.bool (Nat.beq j i)))
def Be (i:Nat):List UInt8:=Pi.getD i []
theorem Ayo:((List.range 11).all fun i=>A0 (.tup [H7 (nI 5) (.atom 2) (.str (Be i)) (nI 0) (nI 0) (nI 0) (.str []) (nI 0),if i < 2 then .atom 7 else .atom 6]) (Am PG (Aj An (rmF i)) 20 Iw [.atom 0, .atom 1] []))=true:=by kernel_rfl
theorem Avr {s:List UInt8} (hs:s.length≤9223372036854775805) (i:Nat) (hi:i≤s.length) {c:UInt8} (hc:s[D5 Bf s i]? = some c) (h1:Hg c=false) (h2:isDigit c=false) (h3:c≠39) (m:Nat)
  (hm:∀ j,j < (if m < 11 then m+1 else 11)→(Be j).isPrefixOf (s.drop (D5 Bf s i))=Nat.beq j m) :
  Ah PG (Ab [.str s,nI i,nI (D5 Bf s i:Nat),nI s.length,nB c, .str (s.drop (D5 Bf s i)),nI (D5 Bf s i+1:Nat),nI (D5 Bf s i+2:Nat)]) (rmF m):=by
 have hp:=Wl (by omega) i hi
 have hb:=Ace Bf s i hi
 generalize D5 Bf s i=i' at *
 have hil:i' < s.length:=(List.getElem?_eq_some_iff.1 hc).1
 have hne:¬ (i':Int)=(s.length:Int):=by omega
 have hsm:=Xd c
 have hdg:=Uk c
 rw [h1] at hsm
 rw [h2] at hdg
 have h4:c≠120:=fun e=>by subst e;cases h1
 have e1:IntKind.i64.wrap ((i':Int)+1)=((i'+1:Nat):Int):=by rw [Dn (by omega) (by omega)];omega
 have e2:IntKind.i64.wrap ((i':Int)+2)=((i'+2:Nat):Int):=by rw [Dn (by omega) (by omega)];omega
 refine Ah.append ⟨Ai hp rfl rfl rfl,C2 rfl rfl rfl,Av (c:=false) (a:=i') (b:=s.length) rfl rfl rfl (by show some (PV.bool ((i':Int)==(s.length:Int)))=_;rw [beq_eq_false_iff_ne.2 hne]) (by decide) rfl,G4 rfl rfl hc rfl rfl,trivial⟩
  (Ah.append ⟨Ef (a:=(c.toNat:Nat)) (b:=(120:Nat)) rfl rfl (Gz (c:=c) (n:=120) (b:=false) (by decide) (beq_eq_false_iff_ne.2 h4)) rfl (by decide) rfl,Ai hsm rfl rfl rfl,Ai hdg rfl rfl rfl,
   Ef (a:=(c.toNat:Nat)) (b:=(39:Nat)) rfl rfl (Gz (c:=c) (n:=39) (b:=false) (by decide) (beq_eq_false_iff_ne.2 h3)) rfl (by decide) rfl,Ai Ahu rfl rfl rfl,Uj rfl rfl (by omega) rfl rfl rfl,
   Bm (a:=i') (b:=1) rfl rfl rfl (by simp only [Aq];rw [e1]) (by decide) rfl,Bm (a:=i') (b:=2) rfl rfl rfl (by simp only [Aq];rw [e2]) (by decide) rfl,trivial⟩ (Ah.of fun f hf=>?_))
 obtain ⟨j,hj,rfl⟩:=List.mem_map.1 hf
 rw [List.mem_range] at hj
 have hh:=Afa (s.drop i') (Be j)
 rw [hm j hj] at hh
 exact Ai hh rfl rfl rfl
theorem Ap3 {s:List UInt8} (hs:s.length≤9223372036854775805) (i:Nat) (hi:i≤s.length) {c:UInt8} (hc:s[D5 Bf s i]? = some c) (h1:Hg c=false) (h2:isDigit c=false) (h3:c≠39) (m:Nat) (hm11:m < 11)
  (hm:∀ j,j≤m→(Be j).isPrefixOf (s.drop (D5 Bf s i))=Nat.beq j m):Ev PG Iw [.str s,nI i] (.tup [Ir 5 (D5 Bf s i:Nat) (Be m) 0,nI (D5 Bf s i+(if m < 2 then 2 else 1):Nat)]):=by
 have hk:=As (List.all_eq_true.1 Ayo m (by rw [List.mem_range];exact hm11))
 have hf:=Avr hs i hi hc h1 h2 h3 m (fun j hj=>hm j (by rw [if_pos hm11] at hj;omega))
 by_cases hlt:m < 2
 ·rw [if_pos hlt] at hk
  rw [if_pos hlt]
  exact Ev.facts Af (Ap rfl) hk hf rfl rfl
 ·rw [if_neg hlt] at hk
  rw [if_neg hlt]
  exact Ev.facts Af (Ap rfl) hk hf rfl rfl
open Go Go.RowKit
def F4 (c:UInt8):Bool:=decide (32≤c.toNat)&&decide (c.toNat≤126)
def Vv:List (Nat × PV):=[(0, .atom 0),(3, .atom 1)]
def prA (b:Bool):List Ao:=[.op (.len Ar) [.atom 0] (.atom 2),oI .lss (.atom 1) (.atom 2) (.bool b)]
def Vw (lo hi:Bool):List Ao:=prA true++[.op (.index Ar) [.atom 0, .atom 1] (.atom 3),bI .lss (.atom 3) 32 lo,bI .gtr (.atom 3) 126 hi,oI .add (.atom 1) (nI 1) (.atom 4)]
noncomputable abbrev Yi (fs:List Ao):Option (Ex × St):=Gv PG (Aj An fs) (Am PG (Aj An fs) 5) ((Aj An fs).loop Jq) 5 3 (Du PG Jq 2) ⟨Vv,[]⟩
theorem Qy:Hj PG Jq 2=true:=by kernel_rfl
theorem Ayn:Dc (Yi (prA false)) (.exit 0) [(0, .atom 0)] []=true:=by kernel_rfl
theorem Ay7:Dc (Yi (Vw true false)) .ret [(2, .bool false)] []=true:=by kernel_rfl
theorem Av9:Dc (Yi (Vw false true)) .ret [(2, .bool false)] []=true:=by kernel_rfl
theorem Azl:Dc (Yi (Vw false false)) .normal [(0, .atom 0),(3, .atom 4)] []=true:=by kernel_rfl
theorem Awo:A0 (.bool true) (Am PG (Aj An [.loop Jq 2 [(0, .atom 0),(3,nI 0)] [] (.exit 0) [(0, .atom 0)] []]) 5 Jq [.atom 0] [])=true:=by kernel_rfl
theorem Awv:A0 (.bool false) (Am PG (Aj An [.loop Jq 2 [(0, .atom 0),(3,nI 0)] [] .ret [(2, .bool false)] []]) 5 Jq [.atom 0] [])=true:=by kernel_rfl
theorem Axy {c:UInt8} {n:Nat}:Aq .lss .u8 (c.toNat:Int) (n:Int)=some (.bool (decide (c.toNat < n))):=by
 show some (PV.bool (decide ((c.toNat:Int) < (n:Int))))=_
 congr 2
 exact decide_eq_decide.2 (by omega)
theorem Aw6 {c:UInt8} {n:Nat}:Aq .gtr .u8 (c.toNat:Int) (n:Int)=some (.bool (decide (n < c.toNat))):=by
 show some (PV.bool (decide ((c.toNat:Int) > (n:Int))))=_
 congr 2
 exact decide_eq_decide.2 (by omega)
set_option maxRecDepth 20000 in
theorem At1 {s:List UInt8} (hs:s.length≤9223372036854775806):∀ (l:List UInt8) (i:Nat),s.drop i=l→i≤s.length →
  By PG (Fq PG Jq) (Du PG Jq 2) [(0, .str s),(3,nI i)] [] (if l.all F4 then .exit 0 else .ret) (if l.all F4 then [(0, .str s)] else [(2, .bool false)]) []:=by
 intro l
 induction l with
 | nil =>
  intro i hi h1
  have hlen:s.length≤i:=by
   have:=congrArg List.length hi
   simp at this;omega
  have hge:¬ ((i:Nat):Int) < (s.length:Int):=by omega
  refine By.leave ?_ (fun h=>by cases h)
  exact Ci.chk (nu:=Ab [.str s,nI i,nI s.length]) Af (Ap rfl) (T:=Vv) (s:=[]) (T':=[(0, .atom 0)]) (s':=[]) Qy Ayn
   ⟨C2 rfl rfl rfl,Av (c:=false) (a:=i) (b:=s.length) rfl rfl rfl (by simp only [Aq];rw [decide_eq_false hge]) (by decide) rfl,trivial⟩ rfl rfl rfl
 | cons c l ih =>
  intro i hi h1
  have hx:s[i]? = some c:=by
   have:=congrArg (fun z=>z[0]?) hi
   simpa using this
  have hil:i < s.length:=(List.getElem?_eq_some_iff.1 hx).1
  have hl:s.drop (i+1)=l:=by
   have:=congrArg List.tail hi
   simpa using this
  have hlt:((i:Nat):Int) < (s.length:Int):=by omega
  have e4:IntKind.i64.wrap ((i:Int)+1)=((i+1:Nat):Int):=by rw [Dn (by omega) (by omega)];omega
  have hf:Ah PG (Ab [.str s,nI i,nI s.length,nB c,nI (i+1:Nat)]) (Vw (decide (c.toNat < 32)) (decide (126 < c.toNat))):=by
   unfold Vw prA
   exact ⟨C2 rfl rfl rfl,Av (c:=true) (a:=i) (b:=s.length) rfl rfl rfl (by simp only [Aq];rw [decide_eq_true hlt]) (by decide) rfl,G4 rfl rfl hx rfl rfl,Ef (a:=(c.toNat:Nat)) (b:=(32:Nat)) rfl rfl Axy rfl (by decide) rfl,Ef (a:=(c.toNat:Nat)) (b:=(126:Nat)) rfl rfl Aw6 rfl (by decide) rfl,
    Bm (a:=i) (b:=1) rfl rfl rfl (by simp only [Aq];rw [e4]) (by decide) rfl,trivial⟩
  by_cases h32:c.toNat < 32
  ·have e:(c::l).all F4=false:=by simp [F4,show ¬ 32≤c.toNat by omega]
   rw [e]
   have h126:¬ 126 < c.toNat:=by omega
   rw [decide_eq_true h32,decide_eq_false h126] at hf
   exact By.leave (Ci.chk Af (Ap rfl) (T:=Vv) (s:=[]) (T':=[(2, .bool false)]) (s':=[]) Qy Ay7 hf rfl rfl rfl) (fun h=>by cases h)
  ·by_cases h126:126 < c.toNat
   ·have e:(c::l).all F4=false:=by simp [F4,show ¬ c.toNat≤126 by omega]
    rw [e]
    rw [decide_eq_false h32,decide_eq_true h126] at hf
    exact By.leave (Ci.chk Af (Ap rfl) (T:=Vv) (s:=[]) (T':=[(2, .bool false)]) (s':=[]) Qy Av9 hf rfl rfl rfl) (fun h=>by cases h)
   ·have e:(c::l).all F4=l.all F4:=by simp [F4,show 32≤c.toNat by omega,show c.toNat≤126 by omega]
    rw [e]
    rw [decide_eq_false h32,decide_eq_false h126] at hf
    exact By.round (Ci.chk Af (Ap rfl) (T:=Vv) (s:=[]) (T':=[(0, .atom 0),(3, .atom 4)]) (s':=[]) Qy Azl hf rfl rfl rfl) (ih (i+1) hl (by omega))
theorem Anm {s:List UInt8} (hs:s.length≤9223372036854775806):Ev PG Jq [.str s] (.bool (s.all F4)):=by
 have hl:=At1 hs s 0 rfl (Nat.zero_le _)
 cases h:s.all F4 with
 | true =>
  rw [h] at hl
  exact Ev.facts (nu:=Ab [.str s]) Af (Ap rfl) (As Awo) ⟨Ho Qy (Nat.le_refl _) hl rfl,trivial⟩ rfl rfl
 | false =>
  rw [h] at hl
  exact Ev.facts (nu:=Ab [.str s]) (args:=[.atom 0]) Af (Ap rfl) (As Awv) ⟨Ho Qy (Nat.le_refl _) hl rfl,trivial⟩ rfl rfl
def Al1 (b0 b1 b2 b3:Bool):Option PV:=match (match b0 with|true=>(match b1 with|true=>(match b2 with|true=>(match b3 with|true=>some true|false=>some false)|false=>some false)|false=>some false)|false=>some false:Option Bool) with|some b=>some (PV.bool b)|none=>none
theorem Awj (a b c a' b' c':Int) (s s':List UInt8):F5 PG .eql M8 (.agg [nI a,nI b,nI c, .str s]) (.agg [nI a',nI b',nI c', .str s'])=Al1 (a==a') (b==b') (c==c') (s==s'):=by kernel_rfl
def vP (v:V4):PV:=.agg [nI v.1,nI v.2.1,nI v.2.2.1, .str v.2.2.2]
theorem Ahr (v:V4):F5 PG .eql M8 (vP v) (vP v)=some (.bool true):=by
 unfold vP
 rw [Awj]
 simp [Al1]
def rsF (k:Int) (q ok:Bool):List Ao:=[.op (.len Ar) [.atom 0] (.atom 1),oI .gtr (.atom 1) (nI 40) (.bool q), .prim Jq [.atom 0] (.bool ok), .op (.bin .eql M8) [.agg [nI k,nI 0,nI 0, .atom 0], .agg [nI k,nI 0,nI 0, .atom 0]] (.bool true)]
theorem Axw:(bl fun q=>bl fun ok=>A0 (.bool (!q&&ok)) (Am PG (Aj An (rsF 4 q ok)) 10 Nb [.agg [nI 4,nI 0,nI 0, .atom 0]] []))=true:=by kernel_rfl
theorem Au2 {s:List UInt8} (hs:s.length≤9223372036854775806) (k:Int):Ah PG (Ab [.str s,nI s.length]) (rsF k (decide ((s.length:Int) > 40)) (s.all F4)) :=
 ⟨C2 rfl rfl rfl,Av rfl rfl rfl rfl (by decide) rfl,Ai (Anm hs) rfl rfl rfl,⟨Ahr (k,0,0,s),rfl⟩,trivial⟩
theorem right_text {s:List UInt8} (hs:s.length≤40) (hok:s.all F4=true):Ev PG Nb [vP (4,0,0,s)] (.bool true):=by
 have h:=Au2 (s:=s) (by omega) 4
 rw [hok,decide_eq_false (by omega)] at h
 exact Ev.facts Af (Ap rfl) (As (Bo (Bo Axw false) true)) h rfl rfl
theorem A0b:A0 (H7 (nI 4) (.atom 0) (.str []) (.atom 1) (.atom 2) (.atom 3) (.atom 4) (nI 0)) (Am PG (Aj An [.prim Nb [.agg [.atom 1, .atom 2, .atom 3, .atom 4]] (.bool true)]) 10 V8 [Jo (.atom 0), .agg [.atom 1, .atom 2, .atom 3, .atom 4]] [])=true:=by kernel_rfl
theorem Aor {v:V4} (h:Ev PG Nb [vP v] (.bool true)) (a:Int):Ev PG V8 [Ir 0 a [] 0,vP v] (Sg.pv ⟨4,a,[],v,0⟩) :=
 Ev.facts (nu:=Ab [nI a,nI v.1,nI v.2.1,nI v.2.2.1, .str v.2.2.2]) Af (Ap rfl) (As A0b) ⟨Ai h rfl rfl rfl,trivial⟩ rfl rfl
open Go Go.RowKit
def Bv:List UInt8→List UInt8
 | []=>[]
 | c::l=>if c=39 then 39::39::Bv l else c::Bv l
theorem Py (l:List UInt8):Bv (39::l)=39::39::Bv l:=rfl
theorem N5 {c:UInt8} (h:¬ c=39) (l:List UInt8):Bv (c::l)=c::Bv l:=if_neg h
def Ab5 (k a w v0 v1 v2 v3 e:PV):List PV:=[k,a,w,v0,v1,v2,v3,e]
def Rw (a:PV):List PV:=Ab5 (nI 0) a (.str []) (nI 0) (nI 0) (nI 0) (.str []) (nI 0)
def Vq:List (Nat × PV):=[(0, .atom 0),(3, .box 0 0),(4, .box 1 0),(6, .atom 2),(7, .atom 3)]
def K8:List Aa:=[.box (Rw (.atom 1)), .box (Rw (nI 0))]
def Y5:List Ao:=[.op (.len Ar) [.atom 0] (.atom 4),oI .lss (.atom 3) (.atom 4) (.bool true), .op (.index Ar) [.atom 0, .atom 3] (.atom 5),bI .geq (.atom 5) 32 true,bI .leq (.atom 5) 126 true,oI .add (.atom 3) (nI 1) (.atom 6)]
def txE (b:Bool):List Ao:=Y5++([bI .eql (.atom 5) 39 true,oI .eql (.atom 6) (.atom 4) (.bool b), .prim V8 [H7 (nI 0) (.atom 1) (.str []) (nI 0) (nI 0) (nI 0) (.str []) (nI 0), .agg [nI 4,nI 0,nI 0, .atom 2]] (H7 (nI 4) (.atom 1) (.str []) (nI 4) (nI 0) (nI 0) (.atom 2) (nI 0))] ++
 (if b then [] else [.op (.index Ar) [.atom 0, .atom 6] (.atom 7),bI .neq (.atom 7) 39 true]))
def txQ:List Ao:=Y5++[bI .eql (.atom 5) 39 true,oI .eql (.atom 6) (.atom 4) (.bool false), .op (.index Ar) [.atom 0, .atom 6] (.atom 7),bI .neq (.atom 7) 39 false,oI .add (.atom 6) (nI 1) (.atom 10), .op (.slice Ar true true) [.atom 0, .atom 6, .atom 10] (.atom 8), .op (.bin .add Ar) [.atom 2, .atom 8] (.atom 9)]
def txC:List Ao:=Y5++[bI .eql (.atom 5) 39 false, .op (.slice Ar true true) [.atom 0, .atom 3, .atom 6] (.atom 8), .op (.bin .add Ar) [.atom 2, .atom 8] (.atom 9)]
noncomputable abbrev Adi (fs:List Ao):Option (Ex × St):=Gv PG (Aj An fs) (Am PG (Aj An fs) 5) ((Aj An fs).loop Kq) 5 3 (Du PG Kq 3) ⟨Vq,K8⟩
theorem Us:Hj PG Kq 3=true:=by kernel_rfl
def Yw:List Aa:=[.box (Rw (.atom 1)), .box (Ab5 (nI 4) (.atom 1) (.str []) (nI 4) (nI 0) (nI 0) (.atom 2) (nI 0))]
theorem Alo:(bl fun b=>Dc (Adi (txE b)) .ret [(4, .box 1 0),(5, .atom 6)] Yw)=true:=by kernel_rfl
theorem Az7:Dc (Adi txQ) .normal [(0, .atom 0),(3, .box 0 0),(4, .box 1 0),(6, .atom 9),(7, .atom 10)] K8=true:=by kernel_rfl
theorem Ayg:Dc (Adi txC) .normal [(0, .atom 0),(3, .box 0 0),(4, .box 1 0),(6, .atom 9),(7, .atom 6)] K8=true:=by kernel_rfl
theorem Azi:A0 (.tup [H7 (nI 4) (.atom 1) (.str []) (nI 4) (nI 0) (nI 0) (.atom 2) (nI 0), .atom 6]) (Am PG (Aj An [oI .add (.atom 1) (nI 1) (.atom 3), .loop Kq 3 [(0, .atom 0),(3, .box 0 0),(4, .box 1 0),(6, .str []),(7, .atom 3)] K8 .ret [(4, .box 1 0),(5, .atom 6)] Yw]) 10 Kq [.atom 0,Jo (.atom 1)] [])=true:=by kernel_rfl
theorem Axd {c:UInt8} {n:Nat} (h:n≤c.toNat):Aq .geq .u8 (c.toNat:Int) (n:Int)=some (.bool true):=by
 show some (PV.bool (decide ((c.toNat:Int)≥(n:Int))))=_
 rw [decide_eq_true (by omega)]
theorem Ax8 {c:UInt8} {n:Nat} (h:c.toNat≤n):Aq .leq .u8 (c.toNat:Int) (n:Int)=some (.bool true):=by
 show some (PV.bool (decide ((c.toNat:Int)≤(n:Int))))=_
 rw [decide_eq_true (by omega)]
theorem Akq {c:UInt8} {n:Nat} {b:Bool} (hn:n < 256) (h:(c==UInt8.ofNat n)=b):Aq .neq .u8 (c.toNat:Int) (n:Int)=some (.bool (!b)):=by
 have:=Gz hn h
 simp only [Aq,Option.some.injEq,PV.bool.injEq] at this
 show some (PV.bool (((c.toNat:Nat):Int) != (n:Int)))=_
 rw [bne,this]
theorem Ax {nu:Nat→PV} {x y r:PV} {l m:List UInt8} (h1:subD nu x = .str l) (h2:subD nu y = .str m) (hl:l.length+m.length≤9223372036854775807) (h3:subD nu r = .str (l++m)) (h4:C9 nu r=true):Dz PG nu (.op (.bin .add Ar) [x,y] r) :=
 Hr h1 h2 (by show (if l.length+m.length≤9223372036854775807 then some (PV.str (l++m)) else none)=_;rw [if_pos hl]) h3 h4
def Vj (s:List UInt8) (a:Int) (out:List UInt8) (i:Nat) (c:UInt8) (c2:UInt8) (w out':List UInt8):List PV:=[.str s,nI a, .str out,nI i,nI s.length,nB c,nI (i+1:Nat),nB c2, .str w, .str out',nI (i+2:Nat)]
theorem Ac5 {s:List UInt8} (hs:s.length≤9223372036854775805) (a:Int) (out:List UInt8) (i:Nat) {c:UInt8} (hc:s[i]? = some c) (hok:F4 c=true) (c2:UInt8) (w out':List UInt8):Ah PG (Ab (Vj s a out i c c2 w out')) Y5:=by
 have hil:i < s.length:=(List.getElem?_eq_some_iff.1 hc).1
 simp only [F4,Bool.and_eq_true,decide_eq_true_eq] at hok
 have e1:IntKind.i64.wrap ((i:Int)+1)=((i+1:Nat):Int):=by rw [Dn (by omega) (by omega)];omega
 exact ⟨C2 rfl rfl rfl,Av (c:=true) (a:=i) (b:=s.length) rfl rfl rfl (by simp only [Aq];rw [decide_eq_true (by omega)]) (by decide) rfl,G4 rfl rfl hc rfl rfl,Ef (a:=(c.toNat:Nat)) (b:=(32:Nat)) rfl rfl (Axd hok.1) rfl (by decide) rfl,Ef (a:=(c.toNat:Nat)) (b:=(126:Nat)) rfl rfl (Ax8 hok.2) rfl (by decide) rfl,
  Bm (a:=i) (b:=1) rfl rfl rfl (by simp only [Aq];rw [e1]) (by decide) rfl,trivial⟩
theorem Ui {s l:List UInt8} {i:Nat} {c:UInt8} (h:s.drop i=c::l):s[i]? = some c∧s.drop (i+1)=l∧i < s.length:=by
 have hx:s[i]? = some c:=by
  have:=congrArg (fun z=>z[0]?) h
  simpa using this
 refine ⟨hx,?_,(List.getElem?_eq_some_iff.1 hx).1⟩
 have:=congrArg List.tail h
 simpa using this
theorem Abm {s:List UInt8} {i:Nat} {c:UInt8} (h:s[i]? = some c):(s.take (i+1)).drop i=[c]:=by
 obtain ⟨hl,hc⟩:=List.getElem?_eq_some_iff.1 h
 rw [List.drop_take,Nat.add_sub_cancel_left,List.drop_eq_getElem_cons hl,hc]
 rfl
set_option maxRecDepth 20000 in
theorem At9 {s:List UInt8} (hs:s.length≤9223372036854775805) {a:Int} {full:List UInt8} (hfull:Ev PG V8 [Ir 0 a [] 0,vP (4,0,0,full)] (Sg.pv ⟨4,a,[],(4,0,0,full),0⟩)) (hfl:full.length≤40) {rest:List UInt8} (hrest:rest[0]? ≠ some 39):∀ (l out:List UInt8) (i:Nat),out++l=full→l.all F4=true→s.drop i=Bv l++39::rest →
  By PG (Fq PG Kq) (Du PG Kq 3) [(0, .str s),(3, .box 0 0),(4, .box 1 0),(6, .str out),(7,nI i)] [.box (Rw (nI a)), .box (Rw (nI 0))] .ret [(4, .box 1 0),(5,nI (i+(Bv l).length+1:Nat))]
   [.box (Rw (nI a)), .box (Ab5 (nI 4) (nI a) (.str []) (nI 4) (nI 0) (nI 0) (.str full) (nI 0))]:=by
 intro l
 induction l with
 | nil =>
  intro out i hout hok hd
  have hout:out=full:=by simpa using hout
  subst hout
  have hd':s.drop i=39::rest:=hd
  obtain ⟨hc,hd2,hil⟩:=Ui hd'
  refine By.leave ?_ (fun h=>by cases h)
  have hA:=Ac5 hs a out i hc rfl
  by_cases hend:i+1=s.length
  ·exact Ci.chk (nu:=Ab (Vj s a out i 39 0 [] [])) Af (Ap rfl) (T:=Vq) (s:=K8) (T':=[(4, .box 1 0),(5, .atom 6)]) (s':=Yw) Us (Bo Alo true)
    (Ah.append (hA 0 [] []) ⟨Ef (a:=(39:Nat)) (b:=(39:Nat)) rfl rfl (Gz (c:=39) (n:=39) (b:=true) (by decide) rfl) rfl (by decide) rfl,Av (c:=true) (a:=(i+1:Nat)) (b:=s.length) rfl rfl rfl (by simp only [Aq];rw [hend];simp) (by decide) rfl,Ai hfull rfl rfl rfl,trivial⟩) rfl rfl rfl
  ·obtain ⟨c2,hc2⟩:∃ c2,s[i+1]? = some c2:=⟨s[i+1]'(by omega),List.getElem?_eq_getElem (by omega)⟩
   have hne:c2≠39:=fun e=>by
    have:rest[0]? = s[i+1]?:=by rw [← hd2];simp
    rw [hc2,e] at this
    exact hrest this
   have hne':¬ ((i+1:Nat):Int)=(s.length:Int):=by omega
   exact Ci.chk (nu:=Ab (Vj s a out i 39 c2 [] [])) Af (Ap rfl) (T:=Vq) (s:=K8) (T':=[(4, .box 1 0),(5, .atom 6)]) (s':=Yw) Us (Bo Alo false)
    (Ah.append (hA c2 [] []) ⟨Ef (a:=(39:Nat)) (b:=(39:Nat)) rfl rfl (Gz (c:=39) (n:=39) (b:=true) (by decide) rfl) rfl (by decide) rfl,Av (c:=false) (a:=(i+1:Nat)) (b:=s.length) rfl rfl rfl (by show some (PV.bool (((i+1:Nat):Int)==(s.length:Int)))=_;rw [beq_eq_false_iff_ne.2 hne']) (by decide) rfl,Ai hfull rfl rfl rfl,
     G4 rfl rfl hc2 rfl rfl,Ef (a:=(c2.toNat:Nat)) (b:=(39:Nat)) rfl rfl (Akq (c:=c2) (n:=39) (b:=false) (by decide) (beq_eq_false_iff_ne.2 hne)) rfl (by decide) rfl,trivial⟩) rfl rfl rfl
 | cons c l ih =>
  intro out i hout hok hd
  simp only [List.all_cons,Bool.and_eq_true] at hok
  have hlen:(out++[c]).length≤40:=by
   have:=congrArg List.length hout
   simp at this ⊢
   omega
  have hout':(out++[c])++l=full:=by rw [← hout];simp
  by_cases h39:c=39
  ·subst h39
   have hd':s.drop i=39::(39::(Bv l++39::rest)):=hd
   obtain ⟨hc,hd2,hil⟩:=Ui hd'
   obtain ⟨hc2,hd3,hil2⟩:=Ui hd2
   have hne':¬ ((i+1:Nat):Int)=(s.length:Int):=by omega
   have e2:IntKind.i64.wrap (((i+1:Nat):Int)+1)=((i+2:Nat):Int):=by rw [Dn (by omega) (by omega)];omega
   have el:i+(Bv (39::l)).length+1=i+2+(Bv l).length+1:=by rw [Py];simp;omega
   rw [el]
   refine By.round ?_ (ih (out++[39]) (i+2) hout' hok.2 hd3)
   exact Ci.chk (nu:=Ab (Vj s a out i 39 39 [39] (out++[39]))) Af (Ap rfl) (T:=Vq) (s:=K8) (T':=[(0, .atom 0),(3, .box 0 0),(4, .box 1 0),(6, .atom 9),(7, .atom 10)]) (s':=K8) Us Az7
    (Ah.append (Ac5 hs a out i hc rfl 39 [39] (out++[39])) ⟨Ef (a:=(39:Nat)) (b:=(39:Nat)) rfl rfl (Gz (c:=39) (n:=39) (b:=true) (by decide) rfl) rfl (by decide) rfl,Av (c:=false) (a:=(i+1:Nat)) (b:=s.length) rfl rfl rfl (by show some (PV.bool (((i+1:Nat):Int)==(s.length:Int)))=_;rw [beq_eq_false_iff_ne.2 hne']) (by decide) rfl,
     G4 rfl rfl hc2 rfl rfl,Ef (a:=(39:Nat)) (b:=(39:Nat)) rfl rfl (Akq (c:=39) (n:=39) (b:=true) (by decide) rfl) rfl (by decide) rfl,Bm (a:=(i+1:Nat)) (b:=1) rfl rfl rfl (by simp only [Aq];rw [e2]) (by decide) rfl,
     Pe (s:=s) (i:=i+1) (j:=i+2) rfl rfl rfl (by omega) (Abm hc2) rfl rfl,Ax (l:=out) (m:=[39]) rfl rfl (by simp at hlen ⊢;omega) rfl rfl,trivial⟩) rfl rfl rfl
  ·have hd':s.drop i=c::(Bv l++39::rest):=by rw [hd,N5 h39];rfl
   obtain ⟨hc,hd2,hil⟩:=Ui hd'
   have el:i+(Bv (c::l)).length+1=i+1+(Bv l).length+1:=by rw [N5 h39];simp;omega
   rw [el]
   refine By.round ?_ (ih (out++[c]) (i+1) hout' hok.2 hd2)
   exact Ci.chk (nu:=Ab (Vj s a out i c 0 [c] (out++[c]))) Af (Ap rfl) (T:=Vq) (s:=K8) (T':=[(0, .atom 0),(3, .box 0 0),(4, .box 1 0),(6, .atom 9),(7, .atom 6)]) (s':=K8) Us Ayg
    (Ah.append (Ac5 hs a out i hc hok.1 0 [c] (out++[c])) ⟨Ef (a:=(c.toNat:Nat)) (b:=(39:Nat)) rfl rfl (Gz (c:=c) (n:=39) (b:=false) (by decide) (beq_eq_false_iff_ne.2 h39)) rfl (by decide) rfl,
     Pe (s:=s) (i:=i) (j:=i+1) rfl rfl rfl (by omega) (Abm hc) rfl rfl,Ax (l:=out) (m:=[c]) rfl rfl (by simp at hlen ⊢;omega) rfl rfl,trivial⟩) rfl rfl rfl
theorem Ase {s:List UInt8} (hs:s.length≤9223372036854775805) (i:Nat) {l rest:List UInt8} (hl:l.length≤40) (hok:l.all F4=true) (hrest:rest[0]? ≠ some 39) (hd:s.drop i=39::(Bv l++39::rest)) :
  Ev PG Kq [.str s,Ir 0 i [] 0] (.tup [Sg.pv ⟨4,i,[],(4,0,0,l),0⟩,nI (i+(Bv l).length+2:Nat)]):=by
 obtain ⟨hc,hd2,hil⟩:=Ui hd
 have hlit:=Aor (right_text hl hok) (i:Int)
 have hloop:=At9 hs hlit hl hrest l [] (i+1) rfl hok hd2
 have e1:IntKind.i64.wrap ((i:Int)+1)=((i+1:Nat):Int):=by rw [Dn (by omega) (by omega)];omega
 have el:i+1+(Bv l).length+1=i+(Bv l).length+2:=by omega
 rw [el] at hloop
 exact Ev.facts (nu:=Ab [.str s,nI i, .str l,nI (i+1:Nat),nI 0,nI 0,nI (i+(Bv l).length+2:Nat)]) Af (Ap rfl) (As Azi) ⟨Bm (a:=i) (b:=1) rfl rfl rfl (by simp only [Aq];rw [e1]) (by decide) rfl,Ho Us (Nat.le_refl _) hloop rfl,trivial⟩ rfl rfl
open Go Go.RowKit
def Cc (s:List UInt8):List UInt8:=s.dropWhile (· == 48)
def tlA (b:Bool):List Ao:=[.op (.len Ar) [.atom 0] (.atom 1),oI .gtr (.atom 1) (nI 0) (.bool b)]
def tlB (q:Bool):List Ao:=tlA true++[.op (.index Ar) [.atom 0,nI 0] (.atom 2), .op (.bin .eql Ey) [.atom 2, .int .u8 48] (.bool q), .op (.slice Ar true false) [.atom 0,nI 1] (.atom 3)]
noncomputable abbrev Ac7 (fs:List Ao):Option (Ex × St):=Gv PG (Aj An fs) (Am PG (Aj An fs) 5) ((Aj An fs).loop Qf) 5 3 (Du PG Qf 1) ⟨[(0, .atom 0),(1, .int .u8 48)],[]⟩
theorem Xt:Hj PG Qf 1=true:=by kernel_rfl
theorem Ayx:Dc (Ac7 (tlA false)) (.exit 0) [(0, .atom 0)] []=true:=by kernel_rfl
theorem Azo:Dc (Ac7 (tlB false)) (.exit 0) [(0, .atom 0)] []=true:=by kernel_rfl
theorem Az8:Dc (Ac7 (tlB true)) .normal [(0, .atom 3),(1, .int .u8 48)] []=true:=by kernel_rfl
theorem Ayi:A0 (.atom 1) (Am PG (Aj An [.op (.bin .eql Ar) [.atom 0, .str []] (.bool false), .loop Qf 1 [(0, .atom 0),(1, .int .u8 48)] [] (.exit 0) [(0, .atom 1)] []]) 10 V2 [.atom 0, .str [48]] [])=true:=by kernel_rfl
theorem Awi:A0 (.atom 0) (Am PG (Aj An [.op (.bin .eql Ar) [.atom 0, .str []] (.bool true)]) 10 V2 [.atom 0, .str [48]] [])=true:=by kernel_rfl
theorem As0:∀ (s:List UInt8),By PG (Fq PG Qf) (Du PG Qf 1) [(0, .str s),(1, .int .u8 48)] [] (.exit 0) [(0, .str (Cc s))] []:=by
 intro s
 induction s with
 | nil =>
  refine By.leave ?_ (fun h=>by cases h)
  exact Ci.chk (nu:=Ab [.str [],nI 0]) Af (Ap rfl) (T:=[(0, .atom 0),(1, .int .u8 48)]) (s:=[]) (T':=[(0, .atom 0)]) (s':=[]) Xt Ayx ⟨C2 (s:=[]) rfl rfl rfl,Av (c:=false) (a:=0) (b:=0) rfl rfl rfl rfl (by decide) rfl,trivial⟩ rfl rfl rfl
 | cons c s ih =>
  have hf:∀ q,(c==48)=q→Ah PG (Ab [.str (c::s),nI (s.length+1:Nat),nB c, .str s]) (tlB q):=fun q hq =>
   ⟨C2 (s:=c::s) rfl rfl rfl,Av (c:=true) (a:=(s.length+1:Nat)) (b:=0) rfl rfl rfl (by simp only [Aq];rw [decide_eq_true (by omega)]) (by decide) rfl,G4 (s:=c::s) (n:=0) (c:=c) rfl rfl rfl rfl rfl,Ef (a:=(c.toNat:Nat)) (b:=(48:Nat)) rfl rfl (Gz (c:=c) (n:=48) (by decide) hq) rfl (by decide) rfl,
    Uj (s:=c::s) (i:=1) (w:=s) rfl rfl (by simp) rfl rfl rfl,trivial⟩
  cases hq:(c==48) with
  | false =>
   have e:Cc (c::s)=c::s:=by unfold Cc;rw [List.dropWhile_cons,hq];rfl
   rw [e]
   refine By.leave ?_ (fun h=>by cases h)
   exact Ci.chk Af (Ap rfl) (T:=[(0, .atom 0),(1, .int .u8 48)]) (s:=[]) (T':=[(0, .atom 0)]) (s':=[]) Xt Azo (hf false hq) rfl rfl rfl
  | true =>
   have e:Cc (c::s)=Cc s:=by unfold Cc;rw [List.dropWhile_cons,hq];rfl
   rw [e]
   exact By.round (Ci.chk Af (Ap rfl) (T:=[(0, .atom 0),(1, .int .u8 48)]) (s:=[]) (T':=[(0, .atom 3),(1, .int .u8 48)]) (s':=[]) Xt Az8 (hf true hq) rfl rfl rfl) ih
theorem Afx (s:List UInt8):Ev PG V2 [.str s, .str [48]] (.str (Cc s)):=by
 cases s with
 | nil=>exact Ev.facts (nu:=Ab [.str []]) Af (Ap rfl) (As Awi) ⟨Hr (l:=[]) (m:=[]) rfl rfl (Jb _ _) rfl rfl,trivial⟩ rfl rfl
 | cons c s=>exact Ev.facts (nu:=Ab [.str (c::s), .str (Cc (c::s))]) (args:=[.atom 0, .str [48]]) Af (Ap rfl) (As Ayi) ⟨Hr (l:=c::s) (m:=[]) rfl rfl (Jb _ _) rfl rfl,Ho Xt (Nat.le_refl _) (As0 (c::s)) rfl,trivial⟩ rfl rfl
def Dw (s:List UInt8):List UInt8:=(Cc s.reverse).reverse
def trA (b:Bool):List Ao:=[.op (.len Ar) [.atom 0] (.atom 1),oI .gtr (.atom 1) (nI 0) (.bool b)]
def trB (q:Bool):List Ao:=trA true++[oI .sub (.atom 1) (nI 1) (.atom 4), .op (.index Ar) [.atom 0, .atom 4] (.atom 2), .op (.bin .eql Ey) [.atom 2, .int .u8 48] (.bool q), .op (.slice Ar false true) [.atom 0, .atom 4] (.atom 3)]
noncomputable abbrev Adg (fs:List Ao):Option (Ex × St):=Gv PG (Aj An fs) (Am PG (Aj An fs) 5) ((Aj An fs).loop Qe) 5 3 (Du PG Qe 1) ⟨[(0, .atom 0),(1, .int .u8 48)],[]⟩
theorem X5:Hj PG Qe 1=true:=by kernel_rfl
theorem A0m:Dc (Adg (trA false)) (.exit 0) [(0, .atom 0)] []=true:=by kernel_rfl
theorem Azp:Dc (Adg (trB false)) (.exit 0) [(0, .atom 0)] []=true:=by kernel_rfl
theorem Ay0:Dc (Adg (trB true)) .normal [(0, .atom 3),(1, .int .u8 48)] []=true:=by kernel_rfl
theorem Ay4:A0 (.atom 1) (Am PG (Aj An [.op (.bin .eql Ar) [.atom 0, .str []] (.bool false), .loop Qe 1 [(0, .atom 0),(1, .int .u8 48)] [] (.exit 0) [(0, .atom 1)] []]) 10 V1 [.atom 0, .str [48]] [])=true:=by kernel_rfl
theorem Ax4:A0 (.atom 0) (Am PG (Aj An [.op (.bin .eql Ar) [.atom 0, .str []] (.bool true)]) 10 V1 [.atom 0, .str [48]] [])=true:=by kernel_rfl
theorem Atg:∀ (r:List UInt8),r.length≤9223372036854775806→By PG (Fq PG Qe) (Du PG Qe 1) [(0, .str r.reverse),(1, .int .u8 48)] [] (.exit 0) [(0, .str (Cc r).reverse)] []:=by
 intro r
 induction r with
 | nil =>
  intro _
  refine By.leave ?_ (fun h=>by cases h)
  exact Ci.chk (nu:=Ab [.str [],nI 0]) Af (Ap rfl) (T:=[(0, .atom 0),(1, .int .u8 48)]) (s:=[]) (T':=[(0, .atom 0)]) (s':=[]) X5 A0m ⟨C2 (s:=[]) rfl rfl rfl,Av (c:=false) (a:=0) (b:=0) rfl rfl rfl rfl (by decide) rfl,trivial⟩ rfl rfl rfl
 | cons c r ih =>
  intro hl
  have hl':r.length+1≤9223372036854775806:=by simpa using hl
  have el:(c::r).reverse=r.reverse++[c]:=by simp
  have e1:IntKind.i64.wrap (((r.length+1:Nat):Int) - 1)=(r.length:Int):=by rw [Dn (by omega) (by omega)];omega
  have hf:∀ q,(c==48)=q→Ah PG (Ab [.str (r.reverse++[c]),nI (r.length+1:Nat),nB c, .str r.reverse,nI r.length]) (trB q):=fun q hq =>
   ⟨C2 (s:=r.reverse++[c]) rfl (by simp [subD,Ab]) rfl,Av (c:=true) (a:=(r.length+1:Nat)) (b:=0) rfl rfl rfl (by simp only [Aq];rw [decide_eq_true (by omega)]) (by decide) rfl,Bm (a:=(r.length+1:Nat)) (b:=1) rfl rfl rfl (by simp only [Aq];rw [e1]) (by decide) rfl,
    G4 (s:=r.reverse++[c]) (n:=r.length) (c:=c) rfl rfl (by rw [List.getElem?_append_right (by simp)];simp) rfl rfl,Ef (a:=(c.toNat:Nat)) (b:=(48:Nat)) rfl rfl (Gz (c:=c) (n:=48) (by decide) hq) rfl (by decide) rfl,
    Ug (s:=r.reverse++[c]) (j:=r.length) (w:=r.reverse) rfl rfl (by simp) (by simp) rfl rfl,trivial⟩
  rw [el]
  cases hq:(c==48) with
  | false =>
   have e:(Cc (c::r)).reverse=r.reverse++[c]:=by unfold Cc;rw [List.dropWhile_cons,hq];exact el
   rw [e]
   refine By.leave ?_ (fun h=>by cases h)
   exact Ci.chk Af (Ap rfl) (T:=[(0, .atom 0),(1, .int .u8 48)]) (s:=[]) (T':=[(0, .atom 0)]) (s':=[]) X5 Azp (hf false hq) rfl rfl rfl
  | true =>
   have e:Cc (c::r)=Cc r:=by unfold Cc;rw [List.dropWhile_cons,hq];rfl
   rw [e]
   exact By.round (Ci.chk Af (Ap rfl) (T:=[(0, .atom 0),(1, .int .u8 48)]) (s:=[]) (T':=[(0, .atom 3),(1, .int .u8 48)]) (s':=[]) X5 Ay0 (hf true hq) rfl rfl rfl) (ih (by omega))
theorem Ang (s:List UInt8) (hs:s.length≤9223372036854775806):Ev PG V1 [.str s, .str [48]] (.str (Dw s)):=by
 have hl:=Atg s.reverse (by simpa using hs)
 rw [List.reverse_reverse] at hl
 cases s with
 | nil=>exact Ev.facts (nu:=Ab [.str []]) Af (Ap rfl) (As Ax4) ⟨Hr (l:=[]) (m:=[]) rfl rfl (Jb _ _) rfl rfl,trivial⟩ rfl rfl
 | cons c s=>exact Ev.facts (nu:=Ab [.str (c::s), .str (Dw (c::s))]) (args:=[.atom 0, .str [48]]) Af (Ap rfl) (As Ay4) ⟨Hr (l:=c::s) (m:=[]) rfl rfl (Jb _ _) rfl rfl,Ho X5 (Nat.le_refl _) hl rfl,trivial⟩ rfl rfl
open Go Go.RowKit
def E1 (e:PV) (s:List Aa):Option (PV × List Aa)→Bool
 | some (r,t)=>PV.same r e&&P0 t s
 | none=>false
theorem Dt {e:PV} {s:List Aa} {o:Option (PV × List Aa)} (h:E1 e s o=true):o=some (e,s):=by
 cases o with
 | none=>cases h
 | some q =>
  simp only [E1,Bool.and_eq_true] at h
  rw [← same_eq _ _ h.1,← Un h.2]
def stX (s k a w v0 v1 v2 v3 e tt dp at_ er:PV):List Aa:=[.box [s,k,a,w,v0,v1,v2,v3,e,tt,dp,at_,er]]
def Jn (s k a w v0 v1 v2 v3 tt dp:PV):List Aa:=stX s k a w v0 v1 v2 v3 (nI 0) tt dp (nI 0) (nI 0)
def Db (s:List UInt8) (x:Sg) (tt dp:Nat):List Aa:=Jn (.str s) (nI x.k) (nI x.a) (.str x.w) (nI x.v.1) (nI x.v.2.1) (nI x.v.2.2.1) (.str x.v.2.2.2) (nI tt) (nI dp)
def okA (j:Nat):List Aa:=Jn (.atom 0) (.atom (j+0)) (.atom (j+1)) (.atom (j+2)) (.atom (j+3)) (.atom (j+4)) (.atom (j+5)) (.atom (j+6)) (.atom (j+7)) (.atom (j+8))
def okV (x:Sg) (tt dp:Nat):List PV:=[nI x.k,nI x.a, .str x.w,nI x.v.1,nI x.v.2.1,nI x.v.2.2.1, .str x.v.2.2.2,nI tt,nI dp]
def Bn (x:Sg) (m:List UInt8):Bool:=(x.k==1||x.k==5)&&x.w==m
def isF (b1 b5 bw:Bool):List Ao:=[oI .eql (.atom 1) (nI 1) (.bool b1),oI .eql (.atom 1) (nI 5) (.bool b5), .op (.bin .eql Ar) [.atom 3, .atom 10] (.bool bw)]
theorem Azd:bl (fun b1=>bl fun b5=>bl fun bw=>E1 (.bool ((b1||b5)&&bw)) (okA 1) (Am PG (Aj An (isF b1 b5 bw)) 20 Zt [.box 0 0, .atom 10] (okA 1)))=true:=by kernel_rfl
theorem Hu (a b:Int):Aq .eql .i64 a b=some (.bool (a==b)):=rfl
theorem Aya (s:List UInt8) (x:Sg) (tt dp:Nat) (m:List UInt8):EvS PG Zt [.box 0 0, .str m] (Db s x tt dp) (.bool (Bn x m)) (Db s x tt dp) :=
 EvS.facts (nu:=Ab (.str s::(okV x tt dp++[PV.str m]))) (args:=[.box 0 0, .atom 10]) (s:=okA 1) (s':=okA 1) (r:=.bool ((x.k==1||x.k==5)&&x.w==m)) Af (Ap rfl) (Dt (Bo (Bo (Bo Azd (x.k==1)) (x.k==5)) (x.w==m)))
  ⟨Av rfl rfl rfl (Hu _ _) (by decide) rfl,Av rfl rfl rfl (Hu _ _) (by decide) rfl,Hr rfl rfl (Jb _ _) rfl rfl,trivial⟩ rfl rfl rfl
theorem Auw:E1 (.tup []) (Jn (.atom 0) (.atom 10) (.atom 11) (.atom 12) (.atom 13) (.atom 14) (.atom 15) (.atom 16) (.atom 17) (.atom 9)) (Am PG (Aj An [.prim Iw [.atom 0, .atom 8] (.tup [H7 (.atom 10) (.atom 11) (.atom 12) (.atom 13) (.atom 14) (.atom 15) (.atom 16) (nI 0), .atom 17]),oI .eql (.atom 10) (nI 6) (.bool false)]) 20 V5 [.box 0 0] (okA 1))=true:=by kernel_rfl
structure Rd (s:List UInt8) (i:Nat) (x:Sg) (j:Nat):Prop where
 ev:Ev PG Iw [.str s,nI i] (.tup [x.pv,nI j])
 e:x.e=0
 k:x.k≠6
theorem A8 {s:List UInt8} (x:Sg) {tt:Nat} (dp:Nat) {y:Sg} {tu:Nat} (h:Rd s tt y tu):EvS PG V5 [.box 0 0] (Db s x tt dp) (.tup []) (Db s y tu dp):=by
 obtain ⟨he,h0,hk⟩:=h
 obtain ⟨k,a,w,v,e⟩:=y
 dsimp only at h0 hk
 subst h0
 exact EvS.facts (nu:=Ab (.str s::(okV x tt dp++okV ⟨k,a,w,v,0⟩ tu dp))) (args:=[.box 0 0]) Af (Ap rfl) (Dt Auw) ⟨Ai he rfl rfl rfl,Av (c:=false) rfl rfl rfl (by rw [Hu,beq_eq_false_iff_ne.2 hk]) (by decide) rfl,trivial⟩ rfl rfl rfl
open Go Go.RowKit
theorem Aw {nu:Nat→PV} {g:FuncId} {args:List PV} {s s':List Aa} {r:PV} {a:List PV} {b d:List Aa} {c:PV} (h:EvS PG g a b c d) (h1:args.map (subD nu)=a) (h2:s.map (Bz nu)=b) (h3:subD nu r=c) (h4:s'.map (Bz nu)=d) (h5:(C9 nu r&&s'.all (Gs nu))=true):Dz PG nu (.st g args s r s') :=
 ⟨by rw [h1,h2,h3,h4];exact h,h5⟩
structure E7 where
 k:PV
 nm:PV
 v0:PV
 v1:PV
 v2:PV
 v3:PV
 l:PV
def E7.L (r:E7):List PV:=[r.k,r.nm,r.v0,r.v1,r.v2,r.v3,r.l]
def E7.pv (r:E7):PV:=.agg r.L
def E7.ok (r:E7):Bool:=r.L.all fun p=>p.clean&&p.pure
def Ew (k nm v0 v1 v2 v3 l:PV):PV:=.agg [k,nm,v0,v1,v2,v3,l]
def eA (j:Nat):PV:=Ew (.atom (j+0)) (.atom (j+1)) (.atom (j+2)) (.atom (j+3)) (.atom (j+4)) (.atom (j+5)) (.atom (j+6))
def E7.zero:E7:=⟨nI 0, .str [],nI 0,nI 0,nI 0, .str [], .nilslice⟩
def E7.un (k:Int) (r:E7):E7:=⟨nI k, .str [],nI 0,nI 0,nI 0, .str [], .slice 7 [r.pv]⟩
def E7.col (w:List UInt8):E7:=⟨nI 2, .str w,nI 0,nI 0,nI 0, .str [], .nilslice⟩
theorem E7.pure {r:E7} (h:r.ok=true):r.pv.pure=true:=by
 simp only [E7.ok,E7.L,List.all_cons,List.all_nil,Bool.and_eq_true,Bool.and_true] at h
 simp only [E7.pv,E7.L,PV.pure,PV.pureL,h,Bool.and_self]
theorem E7.un_ok {k:Int} {r:E7} (h:r.ok=true):(E7.un k r).ok=true:=by
 have:=E7.pure h
 simp only [E7.un,E7.ok,E7.L,List.all_cons,List.all_nil,PV.clean,PV.pure,PV.pureL,this,Bool.and_self]
abbrev kw (s:String):List UInt8:=bs s
abbrev D2 (st:List Aa) (m:String) (b:Bool):Ao:=.st Zt [.box 0 0, .str (kw m)] st (.bool b) st
theorem C6 {nu:Nat→PV} {st:List Aa} {m:String} {b:Bool} {s:List UInt8} {x:Sg} {tt dp:Nat} (h1:st.map (Bz nu)=Db s x tt dp) (h:Bn x (kw m)=b) (h2:st.all (Gs nu)=true):Dz PG nu (D2 st m b):=by
 refine Aw (Aya s x tt dp (kw m)) rfl h1 (by rw [h];rfl) h1 ?_
 rw [h2];rfl
def Aze (bm:Bool):List Ao:=[oI .eql (.atom 1) (nI 4) (.bool false),oI .eql (.atom 1) (nI 3) (.bool false),D2 (okA 1) "true" false,D2 (okA 1) "false" false,D2 (okA 1) "null" false,D2 (okA 1) "-" bm]
def A0p:List Ao:=[.prim Iw [.atom 0, .atom 8] (.tup [H7 (.atom 10) (.atom 11) (.atom 12) (.atom 13) (.atom 14) (.atom 15) (.atom 16) (nI 0), .atom 17]),oI .neq (.atom 10) (nI 3) (.bool true)]
def cnF (bm:Bool):List Ao:=Aze bm++(match bm with|true=>A0p|false=>[])
theorem Aky:bl (fun bm=>E1 (.tup [.agg [nI 0,nI 0,nI 0, .str []], .bool false]) (okA 1) (Am PG (Aj An (cnF bm)) 20 I7 [.box 0 0] (okA 1)))=true:=by kernel_rfl
structure Ys (s:List UInt8) (x:Sg) (tt:Nat):Prop where
 k4:x.k≠4
 k3:x.k≠3
 t:Bn x (kw "true")=false
 f:Bn x (kw "false")=false
 n:Bn x (kw "null")=false
 m:Bn x (kw "-")=true→∃ y tu,Rd s tt y tu∧y.k≠3
theorem N4 (a b:Int):Aq .neq .i64 a b=some (.bool (a != b)):=rfl
theorem Aaq {s:List UInt8} {x:Sg} {tt:Nat} (dp:Nat) (h:Ys s x tt):EvS PG I7 [.box 0 0] (Db s x tt dp) (.tup [.agg [nI 0,nI 0,nI 0, .str []], .bool false]) (Db s x tt dp):=by
 obtain ⟨h4,h3,ht,hf,hn,hm⟩:=h
 cases hb:Bn x (kw "-") with
 | false =>
  exact EvS.facts (nu:=Ab (.str s::okV x tt dp)) (args:=[.box 0 0]) (s:=okA 1) (s':=okA 1) Af (Ap rfl) (Dt (Bo Aky false))
   ⟨Av (c:=false) rfl rfl rfl (by rw [Hu,beq_eq_false_iff_ne.2 h4]) (by decide) rfl,Av (c:=false) rfl rfl rfl (by rw [Hu,beq_eq_false_iff_ne.2 h3]) (by decide) rfl,C6 rfl ht rfl,C6 rfl hf rfl,C6 rfl hn rfl,C6 rfl hb rfl,trivial⟩ rfl rfl rfl
 | true =>
  obtain ⟨y,tu,⟨he,h0,hk⟩,hy⟩:=hm hb
  obtain ⟨k,a,w,v,e⟩:=y
  dsimp only at h0 hk hy
  subst h0
  exact EvS.facts (nu:=Ab (.str s::(okV x tt dp++okV ⟨k,a,w,v,0⟩ tu dp))) (args:=[.box 0 0]) (s:=okA 1) (s':=okA 1) Af (Ap rfl) (Dt (Bo Aky true))
   ⟨Av (c:=false) rfl rfl rfl (by rw [Hu,beq_eq_false_iff_ne.2 h4]) (by decide) rfl,Av (c:=false) rfl rfl rfl (by rw [Hu,beq_eq_false_iff_ne.2 h3]) (by decide) rfl,C6 rfl ht rfl,C6 rfl hf rfl,C6 rfl hn rfl,C6 rfl hb rfl,
    Ai he rfl rfl rfl,Av (c:=true) rfl rfl rfl (by rw [N4];simp [hy]) (by decide) rfl,trivial⟩ rfl rfl rfl
open Go Go.RowKit
def okD (j d:Nat):List Aa:=Jn (.atom 0) (.atom (j+0)) (.atom (j+1)) (.atom (j+2)) (.atom (j+3)) (.atom (j+4)) (.atom (j+5)) (.atom (j+6)) (.atom (j+7)) (.atom d)
def Aw1:PV:=.tup [.agg [nI 0,nI 0,nI 0, .str []], .bool false]
abbrev Bl (a b:List Aa):Ao:=.st V5 [.box 0 0] a (.tup []) b
def onB (bm bp:Bool):List Ao:=[.st I7 [.box 0 0] (okD 1 9) Aw1 (okD 1 9),D2 (okD 1 9) "-" bm,D2 (okD 1 9) "(" bp]
def Zj:List Ao:=[oI .geq (.atom 9) (nI 12) (.bool false),oI .add (.atom 9) (nI 1) (.atom 18),oI .sub (.atom 18) (nI 1) (.atom 9),Bl (okD 1 18) (okD 10 18)]
theorem Avy:E1 (Ew (nI 4) (.str []) (nI 0) (nI 0) (nI 0) (.str []) (.slice 7 [eA 30])) (okD 20 9) (Am PG (Aj An (onB true false++(Zj++[.st Jp [.box 0 0] (okD 10 18) (eA 30) (okD 20 18)]))) 20 Jp [.box 0 0] (okD 1 9))=true:=by kernel_rfl
theorem Awa:E1 (eA 30) (okD 40 9) (Am PG (Aj An (onB false true++(Zj++[.st M5 [.box 0 0] (okD 10 18) (eA 30) (okD 20 18),D2 (okD 20 9) ")" true,Bl (okD 20 9) (okD 40 9)]))) 20 Jp [.box 0 0] (okD 1 9))=true:=by kernel_rfl
theorem Av1:E1 (Ew (nI 2) (.atom 3) (nI 0) (nI 0) (nI 0) (.str []) .nilslice) (okD 10 9) (Am PG (Aj An (onB false false++[oI .neq (.atom 1) (nI 2) (.bool false),Bl (okD 1 9) (okD 10 9)])) 20 Jp [.box 0 0] (okD 1 9))=true:=by kernel_rfl
def sv (x:Sg) (tt:Nat):List PV:=[nI x.k,nI x.a, .str x.w,nI x.v.1,nI x.v.2.1,nI x.v.2.2.1, .str x.v.2.2.2,nI tt]
theorem Al9 {f:PV→Bool} {a b c:List PV} (h1:a.all f=true) (h2:b.all f=true) (h3:c.all f=true):(a++(b++c)).all f=true:=by rw [List.all_append,List.all_append,h1,h2,h3];rfl
def Ip (s:List UInt8) (x:Sg) (tt dp:Nat) (y:Sg) (tu:Nat) (m:List PV) (r:E7) (q:Sg) (tq:Nat):List PV:=(PV.str s::(sv x tt++(nI dp::(sv y tu++(nI (dp+1:Nat)::nI 0::(m++[nI 0,nI 0]))))))++(r.L++([nI 0,nI 0,nI 0]++sv q tq))
theorem Qz {s:List UInt8} {x:Sg} {tt dp:Nat} {y:Sg} {tu:Nat} {a b c d e f g h:PV} (hm : [a,b,c,d,e,f,g,h].all (fun p=>p.clean&&p.pure)=true) {r:E7} (hr:r.ok=true) {q:Sg} {tq:Nat}:Bc (Ab (Ip s x tt dp y tu [a,b,c,d,e,f,g,h] r q tq)):=by
 refine Ap (Al9 ?_ hr rfl)
 have e:(([a,b,c,d,e,f,g,h]++[nI 0,nI 0]).all fun p=>p.clean&&p.pure)=true:=by rw [List.all_append,hm];rfl
 exact e
def J8 (s:List UInt8) (x:Sg) (tt dp:Nat) (r:E7) (z:Sg) (tz:Nat):Prop:=EvS PG Jp [.box 0 0] (Db s x tt dp) r.pv (Db s z tz dp)∧r.ok=true
def Any (s:List UInt8) (x:Sg) (tt dp:Nat) (r:E7) (z:Sg) (tz:Nat):Prop:=EvS PG M5 [.box 0 0] (Db s x tt dp) r.pv (Db s z tz dp)∧r.ok=true
section
variable {s:List UInt8} {x y z q:Sg} {tt tu tz tq dp:Nat} {r:E7}
theorem Add {nu:Nat→PV} (h9:nu 9=nI dp) (h18:nu 18=nI (dp+1:Nat)) (hd:dp < 12) (h1:(okD 1 18).map (Bz nu)=Db s x tt (dp+1)) (h2:(okD 10 18).map (Bz nu)=Db s y tu (dp+1)) (hy:Rd s tt y tu):Ah PG nu Zj:=by
 have e1:IntKind.i64.wrap ((dp:Int)+1)=((dp+1:Nat):Int):=by rw [Dn (by omega) (by omega)];omega
 have e2:IntKind.i64.wrap (((dp+1:Nat):Int) - 1)=(dp:Int):=by rw [Dn (by omega) (by omega)];omega
 exact ⟨Av (a:=dp) (b:=12) (c:=false) h9 rfl rfl (by simp only [Aq];rw [decide_eq_false (by omega)]) (by decide) rfl,Bm (a:=dp) (b:=1) (c:=(dp+1:Nat)) h9 rfl h18 (by simp only [Aq];rw [e1]) (by decide) (by show (nu 18).one=true;rw [h18];rfl),
  Bm (a:=(dp+1:Nat)) (b:=1) (c:=dp) h18 rfl h9 (by simp only [Aq];rw [e2]) (by decide) (by show (nu 9).one=true;rw [h9];rfl),Aw (A8 x (dp+1) hy) rfl h1 rfl h2 rfl,trivial⟩
theorem Aso (hn:Ys s x tt) (hm:Bn x (kw "-")=true) (hp:Bn x (kw "(")=false) (hd:dp < 12) (hy:Rd s tt y tu) (h:J8 s y tu (dp+1) r z tz):J8 s x tt dp (E7.un 4 r) z tz:=by
 obtain ⟨h,hr⟩:=h
 refine ⟨?_,E7.un_ok hr⟩
 have hnu:Bc (Ab (Ip s x tt dp y tu (sv z tz) r x tt)):=Qz rfl hr
 have hpu:=E7.pure (E7.un_ok (k:=4) hr)
 exact EvS.facts (nu:=Ab (Ip s x tt dp y tu (sv z tz) r x tt)) (args:=[.box 0 0]) (s:=okD 1 9) (s':=okD 20 9) Af hnu (Dt Avy)
  (Ah.append ⟨Aw (Aaq dp hn) rfl rfl rfl rfl rfl,C6 rfl hm rfl,C6 rfl hp rfl,trivial⟩ (Ah.append (Add rfl rfl hd rfl rfl hy) ⟨Aw h rfl rfl rfl rfl rfl,trivial⟩)) rfl rfl (by rw [Bool.and_eq_true];exact ⟨hpu,rfl⟩)
theorem Aja (hn:Ys s x tt) (hm:Bn x (kw "-")=false) (hp:Bn x (kw "(")=true) (hd:dp < 12) (hy:Rd s tt y tu) (h:Any s y tu (dp+1) r z tz) (hz:Bn z (kw ")")=true) (hq:Rd s tz q tq):J8 s x tt dp r q tq:=by
 obtain ⟨h,hr⟩:=h
 refine ⟨?_,hr⟩
 have hnu:Bc (Ab (Ip s x tt dp y tu (sv z tz) r q tq)):=Qz rfl hr
 have hpu:=E7.pure hr
 exact EvS.facts (nu:=Ab (Ip s x tt dp y tu (sv z tz) r q tq)) (args:=[.box 0 0]) (s:=okD 1 9) (s':=okD 40 9) Af hnu (Dt Awa)
  (Ah.append ⟨Aw (Aaq dp hn) rfl rfl rfl rfl rfl,C6 rfl hm rfl,C6 rfl hp rfl,trivial⟩ (Ah.append (Add rfl rfl hd rfl rfl hy) ⟨Aw h rfl rfl rfl rfl rfl,C6 rfl hz rfl,Aw (A8 z dp hq) rfl rfl rfl rfl rfl,trivial⟩)) rfl rfl (by rw [Bool.and_eq_true];exact ⟨hpu,rfl⟩)
theorem Arj (hn:Ys s x tt) (hm:Bn x (kw "-")=false) (hp:Bn x (kw "(")=false) (hk:x.k=2) (hy:Rd s tt y tu):J8 s x tt dp (E7.col x.w) y tu:=by
 refine ⟨?_,rfl⟩
 exact EvS.facts (nu:=Ab (Ip s x tt dp y tu (sv x tt) E7.zero x tt)) (args:=[.box 0 0]) (s:=okD 1 9) (s':=okD 10 9) Af (Qz rfl rfl) (Dt Av1)
  (Ah.append ⟨Aw (Aaq dp hn) rfl rfl rfl rfl rfl,C6 rfl hm rfl,C6 rfl hp rfl,trivial⟩ ⟨Av (c:=false) rfl rfl rfl (by rw [N4,hk];rfl) (by decide) rfl,Aw (A8 x dp hy) rfl rfl rfl rfl rfl,trivial⟩) rfl rfl rfl
def stops:List String:=["*", "+", "-", "=", "<>", "<", "<=", "is", "and", "or"]
theorem Awg:E1 (eA 30) (okD 20 9) (Am PG (Aj An (D2 (okD 1 9) "not" false::.st Jp [.box 0 0] (okD 1 9) (eA 30) (okD 20 9)::stops.map fun m=>D2 (okD 20 9) m false)) 20 M5 [.box 0 0] (okD 1 9))=true:=by kernel_rfl
theorem Ajh (hn:Bn x (kw "not")=false) (h:J8 s x tt dp r z tz) (hz:∀ m∈stops,Bn z (kw m)=false):Any s x tt dp r z tz:=by
 obtain ⟨h,hr⟩:=h
 refine ⟨?_,hr⟩
 have hpu:=E7.pure hr
 have hnu:Bc (Ab (Ip s x tt dp x tt (sv z tz) r x tt)):=Qz rfl hr
 refine EvS.facts (nu:=Ab (Ip s x tt dp x tt (sv z tz) r x tt)) (args:=[.box 0 0]) (s:=okD 1 9) (s':=okD 20 9) Af hnu (Dt Awg) ⟨C6 rfl hn rfl,Aw h rfl rfl rfl rfl rfl,Ah.of fun f hf=>?_⟩ rfl rfl (by rw [Bool.and_eq_true];exact ⟨hpu,rfl⟩)
 obtain ⟨m,hm,rfl⟩:=List.mem_map.1 hf
 exact C6 rfl (hz m hm) rfl
end
open Go Go.RowKit
def Jw (p:UInt8→Bool):List UInt8→Bool
 | []=>true
 | c::_=>!p c
theorem Zs {p:UInt8→Bool}:∀ {g t:List UInt8},g.all p=true→Jw p t=true→(g++t).takeWhile p=g
 | [],[],_,_=>rfl
 | [],c::t,_,h=>by
  simp only [Jw,Bool.not_eq_true'] at h
  simp [h]
 | c::g,t,hg,h=>by
  simp only [List.all_cons,Bool.and_eq_true] at hg
  simp only [List.cons_append,List.takeWhile_cons,hg.1,if_true]
  rw [Zs hg.2 h]
theorem Jt {p:UInt8→Bool} {s:List UInt8} {i:Nat} {g t:List UInt8} (h:s.drop i=g++t) (hg:g.all p=true) (ht:Jw p t=true):D5 p s i=i+g.length:=by
 unfold D5
 rw [h,Zs hg ht]
theorem B6 {s:List UInt8} {i:Nat} {g t:List UInt8} (h:s.drop i=g++t):s.drop (i+g.length)=t:=by
 rw [← List.drop_drop,h];simp
theorem D7 {s:List UInt8} {i:Nat} {c:UInt8} {t:List UInt8} (h:s.drop i=c::t):i < s.length∧s[i]? = some c:=by
 have hl:i < s.length:=by
  rcases Nat.lt_or_ge i s.length with hl|hl
  ·exact hl
  ·rw [List.drop_eq_nil_of_le hl] at h;cases h
 refine ⟨hl,?_⟩
 rw [List.drop_eq_getElem_cons hl] at h
 cases h
 exact List.getElem?_eq_getElem hl
def Eq (w:List UInt8) (a:Nat):Sg:=⟨if Bq.contains w then 1 else 2,a,w,v0,0⟩
def D4 (m a:Nat):Sg:=⟨5,a,Be m,v0,0⟩
def Ade (a:Nat):Sg:=⟨0,a,[],v0,0⟩
section
variable {s:List UInt8} {i:Nat} {g:List UInt8}
theorem Anb {c:UInt8} (h:Hg c=true):Bf c=false:=by
 simp only [Hg,Bool.and_eq_true,decide_eq_true_eq] at h
 simp only [Bf,Bool.or_eq_false_iff,beq_eq_false_iff_ne]
 refine ⟨fun e=>?_,fun e=>?_⟩<;>subst e<;>simp at h
theorem Ky (hs:s.length≤9223372036854775805) (hi:i≤s.length) {c:UInt8} {w rest:List UInt8} (h:s.drop i=g++((c::w)++rest)) (hg:g.all Bf=true) (hc:Hg c=true) (hw:w.all Fo=true) (hr:Jw Fo rest=true)
  (hx:c=120→w=[]→rest[0]? ≠ some 39) (hl:w.length≤11):Rd s i (Eq (c::w) (i+g.length)) (i+g.length+(w.length+1)):=by
 have hci:Fo c=true:=by simp [Fo,hc]
 have hall:(c::w).all Fo=true:=by simp [hci,hw]
 have hp:=Jt h hg (by show (!Bf c)=true;rw [Anb hc];rfl)
 have hd:=B6 h
 obtain ⟨hil,hci'⟩:=D7 (show s.drop (i+g.length)=c::(w++rest) from hd)
 have hwd:wordAt s (i+g.length)=c::w:=by
  unfold wordAt
  rw [hd,Zs hall hr]
 have hp2:=Jt hd hall hr
 have hl2:=Aog (s:=s) (by omega) (i+g.length) (by omega)
 rw [hwd,hp2,if_neg (show ¬ 12 < (c::w).length by rw [List.length_cons];omega)] at hl2
 refine ⟨?_,rfl,?_⟩
 ·have:=Xn (s:=s) (by omega) i hi (c:=c) (x:=Eq (c::w) (i+g.length)) (te:=i+g.length+(w.length+1)) (by rw [hp];exact hci') (fun e=>?_) (.inl ⟨hc,by rw [hp];exact hl2⟩)
  ·exact this
  ·rw [hp]
   have hd2:s.drop (i+g.length+1)=w++rest:=by
    have:=B6 (g:=[c]) (t:=w++rest) hd
    exact this
   have he:s[i+g.length+1]? = (w++rest)[0]?:=by rw [← hd2];simp
   rw [he]
   cases w with
   | nil=>exact hx e rfl
   | cons d w =>
    intro h39
    simp at h39
    subst h39
    simp only [List.all_cons,Bool.and_eq_true] at hw
    exact absurd hw.1 (by decide)
 ·show (if Bq.contains (c::w) then (1:Int) else 2)≠6
  split<;>decide
theorem Aul (hs:s.length≤9223372036854775806) (hi:i≤s.length) (h:s.drop i=g) (hg:g.all Bf=true):Rd s i (Ade s.length) s.length:=by
 have hp:=Jt (p:=Bf) (t:=[]) (g:=g) (by rw [h];simp) hg rfl
 have hl:i+g.length=s.length:=by rw [← h,List.length_drop];omega
 exact ⟨Ar2 hs i hi (by rw [hp,hl]),rfl,(by show (0:Int)≠6;decide)⟩
theorem Ais (hs:s.length≤9223372036854775805) (hi:i≤s.length) (m:Nat) (hm11:m < 11) {rest:List UInt8} (h:s.drop i=g++(Be m++rest)) (hg:g.all Bf=true)
  (hm:∀ j,j≤m→(Be j).isPrefixOf (Be m++rest)=Nat.beq j m):Rd s i (D4 m (i+g.length)) (i+g.length+(if m < 2 then 2 else 1)):=by
 have hk:∀ m,m < 11→∃ c t,Be m=c::t∧Bf c=false∧Hg c=false∧isDigit c=false∧c≠39:=by
  intro m hm
  have:((List.range 11).all fun m=>match Be m with|c::_=>!Bf c&&(!Hg c&&(!isDigit c&&c != 39)) | []=>false)=true:=by decide
  have:=List.all_eq_true.1 this m (by rw [List.mem_range];exact hm)
  cases hq:Be m with
  | nil=>rw [hq] at this;cases this
  | cons c t =>
   rw [hq] at this
   simp only [Bool.and_eq_true,Bool.not_eq_true',bne_iff_ne] at this
   exact ⟨c,t,rfl,this.1,this.2.1,this.2.2.1,this.2.2.2⟩
 obtain ⟨c,t,hc,h1,h2,h3,h4⟩:=hk m hm11
 have hp:=Jt h hg (by rw [hc];show (!Bf c)=true;rw [h1];rfl)
 have hd:=B6 h
 obtain ⟨hil,hci'⟩:=D7 (show s.drop (i+g.length)=c::(t++rest) by rw [hd,hc];rfl)
 have:=Ap3 hs i hi (c:=c) (by rw [hp];exact hci') h2 h3 h4 m hm11 (fun j hj=>by rw [hp,hd];exact hm j hj)
 rw [hp] at this
 exact ⟨this,rfl,(by show (5:Int)≠6;decide)⟩
theorem H9 (hs:s.length≤9223372036854775805) (hi:i≤s.length) (m:Nat) (hm11:m < 11) (hm7:m≠7) {rest:List UInt8} (h:s.drop i=g++(Be m++rest)) (hg:g.all Bf=true):Rd s i (D4 m (i+g.length)) (i+g.length+(if m < 2 then 2 else 1)):=by
 refine Ais hs hi m hm11 h hg (fun j hj=>?_)
 have hj11:j < 11:=by omega
 clear h
 match m,j,hm11,hm7,hj with
 | 0,0,_,_,_=>rfl
 | 1,0,_,_,_|1,1,_,_,_=>rfl
 | 2,0,_,_,_|2,1,_,_,_|2,2,_,_,_=>rfl
 | 3,0,_,_,_|3,1,_,_,_|3,2,_,_,_|3,3,_,_,_=>rfl
 | 4,0,_,_,_|4,1,_,_,_|4,2,_,_,_|4,3,_,_,_|4,4,_,_,_=>rfl
 | 5,0,_,_,_|5,1,_,_,_|5,2,_,_,_|5,3,_,_,_|5,4,_,_,_|5,5,_,_,_=>rfl
 | 6,0,_,_,_|6,1,_,_,_|6,2,_,_,_|6,3,_,_,_|6,4,_,_,_|6,5,_,_,_|6,6,_,_,_=>rfl
 | 8,0,_,_,_|8,1,_,_,_|8,2,_,_,_|8,3,_,_,_|8,4,_,_,_|8,5,_,_,_|8,6,_,_,_|8,7,_,_,_|8,8,_,_,_=>rfl
 | 9,0,_,_,_|9,1,_,_,_|9,2,_,_,_|9,3,_,_,_|9,4,_,_,_|9,5,_,_,_|9,6,_,_,_|9,7,_,_,_|9,8,_,_,_|9,9,_,_,_=>rfl
 | 10,0,_,_,_|10,1,_,_,_|10,2,_,_,_|10,3,_,_,_|10,4,_,_,_|10,5,_,_,_|10,6,_,_,_|10,7,_,_,_|10,8,_,_,_|10,9,_,_,_|10,10,_,_,_=>rfl
end
open Go Go.RowKit
def opn:List Bool→List UInt8
 | []=>[]
 | true::l=>40::opn l
 | false::l=>45::32::opn l
def cnt (l:List Bool):Nat:=l.count true
def Lies (s:List UInt8) (i:Nat) (g:List UInt8) (l:List Bool) (m:Nat):Prop:=i≤s.length∧g.all Bf=true∧s.drop i=g++(opn l++(120::List.replicate (cnt l+m) 41))
section
variable {s:List UInt8} (hs:s.length≤9223372036854775805)
include hs
omit hs in
omit hs in
end
open Go Go.RowKit
theorem Ax7:Am PG (Aj (fun _ _=>false) [.op (.bin .rem Eh) [.atom 0, .atom 1] (.atom 2), .op (.bin .lss Eh) [.atom 2, .int .i64 0] (.bool true), .op (.bin .add Eh) [.atom 2, .atom 1] (.atom 3)]) 5 Fh [.atom 0, .atom 1] []=some (.atom 3,[]):=by kernel_rfl
theorem Av0:Am PG (Aj (fun _ _=>false) [.op (.bin .rem Eh) [.atom 0, .atom 1] (.atom 2), .op (.bin .lss Eh) [.atom 2, .int .i64 0] (.bool false)]) 5 Fh [.atom 0, .atom 1] []=some (.atom 2,[]):=by kernel_rfl
theorem Iu (a n:Int) (hn:n≠0):Ev PG Fh [.int .i64 a, .int .i64 n] (.int .i64 (C7 a n)):=by
 by_cases hc:a.tmod n < 0
 ·have e:C7 a n=IntKind.i64.wrap (a.tmod n+n):=if_pos hc
  rw [e]
  exact Ev.facts Af (Ap (l:=[.int .i64 a, .int .i64 n, .int .i64 (a.tmod n), .int .i64 (IntKind.i64.wrap (a.tmod n+n))]) rfl)
   Ax7 ⟨Bm rfl rfl rfl (by simp [Aq,hn]) (by decide) rfl,Av rfl rfl rfl (by simp [Aq,hc]) (by decide) rfl,Bm rfl rfl rfl rfl (by decide) rfl,trivial⟩ rfl rfl
 ·have e:C7 a n=a.tmod n:=if_neg hc
  rw [e]
  exact Ev.facts Af (Ap (l:=[.int .i64 a, .int .i64 n, .int .i64 (a.tmod n)]) rfl)
   Av0 ⟨Bm rfl rfl rfl (by simp [Aq,hn]) (by decide) rfl,Av rfl rfl rfl (by simp [Aq,hc]) (by decide) rfl,trivial⟩ rfl rfl
theorem Aql {mv:PV} {xs:List Int} (hmv:mv = .slice 1 (xs.map (.int .i64))∨(mv = .nilslice∧xs=[])):E3 PG Gl mv=some (nI xs.length):=by
 have hu:PG.underlying Gl=some (.slice Eh):=by kernel_rfl
 unfold E3
 rw [hu]
 rcases hmv with rfl|⟨rfl,rfl⟩
 ·simp
 ·rfl
theorem At7 {mv:PV} {xs:List Int} (hmv:mv = .slice 1 (xs.map (.int .i64))∨(mv = .nilslice∧xs=[])) {i:Nat} (hi:i < xs.length):Gf PG Gl mv (nI i)=some (.ref [nI (xs.getD i 0)]):=by
 have hu:PG.underlying Gl=some (.slice Eh):=by kernel_rfl
 have hs:Dl PG Eh=some 1:=by kernel_rfl
 unfold Gf
 rw [hu]
 rcases hmv with rfl|⟨rfl,rfl⟩
 ·have:(xs.map (PV.int .i64))[((i:Nat):Int).toNat]? = some (nI (xs.getD i 0)):=by
   simp [hi]
  simp only [hs,true_and]
  rw [if_pos (by omega),this]
  rfl
 ·simp at hi
theorem All {nu:Nat→PV} {j k:Nat} {mv:PV} {xs:List Int} (hmv:mv = .slice 1 (xs.map (.int .i64))∨(mv = .nilslice∧xs=[])) (h1:nu j=mv) (h2:nu k=nI xs.length):Dz PG nu (.op (.len Gl) [.atom j] (.atom k)):=by
 refine ⟨?_,?_⟩
 ·show E3 PG Gl (nu j)=some (nu k)
  rw [h1,h2];exact Aql hmv
 ·show (nu k).one=true
  rw [h2];rfl
theorem fIx {nu:Nat→PV} {j k i:Nat} {ip:PV} {mv:PV} {xs:List Int} (hmv:mv = .slice 1 (xs.map (.int .i64))∨(mv = .nilslice∧xs=[])) (hi:i < xs.length) (h1:nu j=mv) (h3:subD nu ip=nI i) (h2:nu k=nI (xs.getD i 0)):Dz PG nu (.op (.ix Gl) [.atom j,ip] (.ref [.atom k])):=by
 refine ⟨?_,rfl⟩
 show Gf PG Gl (nu j) (subD nu ip)=some (.ref [nu k])
 rw [h1,h2,h3];exact At7 hmv hi
theorem Aih {l:List PV} (h:∀ p∈l,p.pure=true):PV.pureL l=true:=by
 induction l with
 | nil=>rfl
 | cons p l ih =>
  simp only [PV.pureL,Bool.and_eq_true]
  exact ⟨h p (by simp),ih fun q hq=>h q (by simp [hq])⟩
theorem Wy {mv:PV} {xs:List Int} (hmv:mv = .slice 1 (xs.map (.int .i64))∨(mv = .nilslice∧xs=[])):(mv.clean&&mv.pure)=true∧mv.one=true:=by
 rcases hmv with rfl|⟨rfl,_⟩
 ·refine ⟨?_,rfl⟩
  simp only [PV.clean,Bool.true_and]
  show PV.pureL _=true
  exact Aih fun p hp=>by obtain ⟨x,_,rfl⟩:=List.mem_map.1 hp;rfl
 ·exact ⟨rfl,rfl⟩
def knF:List Ao:=kF++[Ayk (bs "5"),Axr (-5,[45,53])]
theorem Atx:A0 (.bool true) (Am PG (Aj An knF) 70 Aaf [] [])=true:=by kernel_rfl
theorem Axc:([45,53]:List UInt8)=Lib.itoa (-5):=by kernel_rfl
theorem Abu:Ev PG Aaf [] (.bool true) :=
 Ev.facts (nu:=Ab []) (args:=[]) Af (Ap rfl) (As Atx) ⟨Ai Aiu rfl rfl rfl,Ai Ahu rfl rfl rfl,Ai (Aj9 (bs "5") [46] (by decide)) rfl rfl rfl,Ai (Acm (-5) (by decide)) rfl (congrArg PV.str Axc) rfl,trivial⟩ rfl rfl
open Go Go.RowKit
def Bh:List PV:=[.str [], .nilslice,nI 0, .nilslice,nI 0, .str [],nI 0,nI 0,nI 0, .str [], .nilslice, .nilslice]
def Cf (k:PV) (T:List PV) (nm col dst row:PV) (e w:List PV):PV:=.agg (k::(T++([nm,col,dst,row]++(e++w))))
def G7 (j:Nat):List PV:=[.atom (j+0), .atom (j+1), .atom (j+2), .atom (j+3), .atom (j+4), .atom (j+5), .atom (j+6)]
open Go Go.RowKit
open Go Go.RowKit
open Go Go.RowKit
theorem Arw (n:Int) (m:Nat) (h0:0 < m) (h1:m≤9223372036854775807):∃ k:Nat,C7 n m=k∧k < m:=by
 unfold C7
 have h2:=Int.tmod_lt_of_pos n (show (0:Int) < m by omega)
 have h3 : -(m:Int) < n.tmod m:=by
  have:=Int.lt_tmod_of_pos n (show (0:Int) < m by omega)
  omega
 split
 ·rw [Dn (by omega) (by omega)]
  exact ⟨(n.tmod m+m).toNat,by omega,by omega⟩
 ·exact ⟨(n.tmod m).toNat,by omega,by omega⟩
open Go Go.RowKit
def Ej (l:List UInt8) (n:Int):Int:=l.foldl (fun n c=>10*n - ((c.toNat:Int) - 48)) n
theorem Xm:∀ (l:List UInt8) {n:Int},l.all isDigit=true→n≤0→Ej l n≤n
 | [],n,_,_=>Int.le_refl n
 | c::l,n,h,hn=>by
  simp only [List.all_cons,Bool.and_eq_true,isDigit,decide_eq_true_eq] at h
  have:=Xm l (n:=10*n - ((c.toNat:Int) - 48)) (by simpa [isDigit] using h.2) (by omega)
  show Ej l (10*n - ((c.toNat:Int) - 48))≤n
  omega
def meT:List (Nat × PV):=[(1, .atom 0),(4, .box 0 0),(7, .atom 1),(8, .atom 2),(9, .atom 3),(10, .atom 4),(32, .atom 5),(33, .atom 6)]
def J7:List Aa:=[.box [nI 0,nI 0,nI 0, .str []]]
def meA (b:Bool):List Ao:=[oI .lss (.atom 6) (.atom 5) (.bool b)]
def meB:List Ao:=[.op (.index Ar) [.atom 3, .atom 6] (.atom 7), .op (.bin .sub Ey) [.atom 7, .int .u8 48] (.atom 8), .op (.conv Ey Eh) [.atom 8] (.atom 9),oI .add (nI (-9223372036854775808)) (.atom 9) (.atom 10),oI .quo (.atom 10) (nI 10) (.atom 11),oI .lss (.atom 4) (.atom 11) (.bool false),
 oI .mul (nI 10) (.atom 4) (.atom 12),oI .sub (.atom 12) (.atom 9) (.atom 13),oI .add (.atom 6) (nI 1) (.atom 14)]
noncomputable abbrev Ak6 (fs:List Ao):Option (Ex × St):=Gv PG (Aj An fs) (Am PG (Aj An fs) 5) ((Aj An fs).loop Ge) 5 3 (Du PG Ge 9) ⟨meT,J7⟩
theorem Xq:Hj PG Ge 9=true:=by kernel_rfl
theorem A0l:Dc (Ak6 (meA false)) (.exit 0) [(1, .atom 0),(4, .box 0 0),(7, .atom 1),(8, .atom 2),(10, .atom 4)] J7=true:=by kernel_rfl
theorem Ayw:Dc (Ak6 (meA true++meB)) .normal [(1, .atom 0),(4, .box 0 0),(7, .atom 1),(8, .atom 2),(9, .atom 3),(10, .atom 13),(32, .atom 5),(33, .atom 14)] J7=true:=by kernel_rfl
theorem Aut {nu:Nat→PV} {x r:PV} {n:Int} (h1:subD nu x = .int .u8 n) (h2:subD nu r=nI n) (hn : -9223372036854775808≤n∧n≤9223372036854775807) (h3:C9 nu r=true):Dz PG nu (.op (.conv Ey Eh) [x] r):=by
 refine ⟨?_,h3⟩
 show J1 PG Ey Eh (subD nu x)=some (subD nu r)
 rw [h1,h2]
 have e1:PG.underlying Ey=some (.int .u8):=by kernel_rfl
 have e2:PG.underlying Eh=some (.int .i64):=by kernel_rfl
 unfold J1
 rw [e1,e2]
 show some (PV.int .i64 (IntKind.i64.wrap n))=_
 rw [Dn hn.1 hn.2]
def Alw (b q:Bool) (p all:List UInt8) (n:Int) (i:Nat) (c:UInt8):List PV :=
 [.bool b, .str p, .bool q, .str all,nI n,nI all.length,nI i,nB c, .int .u8 ((c.toNat:Int) - 48),nI ((c.toNat:Int) - 48),nI (-9223372036854775808+((c.toNat:Int) - 48)),nI ((-9223372036854775808+((c.toNat:Int) - 48)).tdiv 10),nI (10*n),nI (10*n - ((c.toNat:Int) - 48)),nI (i+1:Nat)]
set_option maxRecDepth 20000 in
theorem Atz (b q:Bool) (p:List UInt8) {all:List UInt8} (hs:all.length≤19):∀ (l:List UInt8) (n:Int) (i:Nat),all.drop i=l→i≤all.length→l.all isDigit=true→n≤0→-9223372036854775808≤Ej l n →
  By PG (Fq PG Ge) (Du PG Ge 9) [(1, .bool b),(4, .box 0 0),(7, .str p),(8, .bool q),(9, .str all),(10,nI n),(32,nI all.length),(33,nI i)] J7 (.exit 0) [(1, .bool b),(4, .box 0 0),(7, .str p),(8, .bool q),(10,nI (Ej l n))] J7:=by
 intro l
 induction l with
 | nil =>
  intro n i hi h1 _ _ _
  have hlen:all.length≤i:=by
   have:=congrArg List.length hi
   simp at this;omega
  refine By.leave ?_ (fun h=>by cases h)
  exact Ci.chk (nu:=Ab (Alw b q p all n i 0)) Af (Ap rfl) (T:=meT) (s:=J7) (T':=[(1, .atom 0),(4, .box 0 0),(7, .atom 1),(8, .atom 2),(10, .atom 4)]) (s':=J7) Xq A0l
   ⟨Av (c:=false) (a:=i) (b:=all.length) rfl rfl rfl (by simp only [Aq];rw [decide_eq_false (by omega)]) (by decide) rfl,trivial⟩ rfl rfl rfl
 | cons c l ih =>
  intro n i hi h1 hd hn hb
  have hx:all[i]? = some c:=by
   have:=congrArg (fun z=>z[0]?) hi
   simpa using this
  have hil:i < all.length:=(List.getElem?_eq_some_iff.1 hx).1
  have hl:all.drop (i+1)=l:=by
   have:=congrArg List.tail hi
   simpa using this
  simp only [List.all_cons,Bool.and_eq_true] at hd
  have hdc:=hd.1
  simp only [isDigit,Bool.and_eq_true,decide_eq_true_eq] at hdc
  have hb' : -9223372036854775808≤Ej l (10*n - ((c.toNat:Int) - 48)):=hb
  have hle:=Xm l hd.2 (n:=10*n - ((c.toNat:Int) - 48)) (by omega)
  have hr:=ih (10*n - ((c.toNat:Int) - 48)) (i+1) hl (by omega) hd.2 (by omega) hb'
  refine By.round ?_ hr
  have ht:(-9223372036854775808+((c.toNat:Int) - 48)).tdiv 10 = -((9223372036854775808 - ((c.toNat:Int) - 48)) / 10):=by
   rw [show (-9223372036854775808+((c.toNat:Int) - 48)) = -(9223372036854775808 - ((c.toNat:Int) - 48)) by omega,Int.neg_tdiv,Int.tdiv_eq_ediv_of_nonneg (by omega)]
  have e1:IntKind.i64.wrap (-9223372036854775808+((c.toNat:Int) - 48)) = -9223372036854775808+((c.toNat:Int) - 48):=Dn (by omega) (by omega)
  have e2:IntKind.i64.wrap ((-9223372036854775808+((c.toNat:Int) - 48)).tdiv 10)=(-9223372036854775808+((c.toNat:Int) - 48)).tdiv 10:=Dn (by rw [ht];omega) (by rw [ht];omega)
  have e3:IntKind.i64.wrap (10*n)=10*n:=Dn (by omega) (by omega)
  have e4:IntKind.i64.wrap (10*n - ((c.toNat:Int) - 48))=10*n - ((c.toNat:Int) - 48):=Dn (by omega) (by omega)
  have e5:IntKind.i64.wrap ((i:Int)+1)=((i+1:Nat):Int):=by rw [Dn (by omega) (by omega)];omega
  have e6:IntKind.u8.wrap ((c.toNat:Int) - 48)=(c.toNat:Int) - 48:=Go.IntWalk.u8_in _ ⟨by omega,by omega⟩
  have hlt:¬ n < (-9223372036854775808+((c.toNat:Int) - 48)).tdiv 10:=by rw [ht];omega
  exact Ci.chk (nu:=Ab (Alw b q p all n i c)) Af (Ap rfl) (T:=meT) (s:=J7) (T':=[(1, .atom 0),(4, .box 0 0),(7, .atom 1),(8, .atom 2),(9, .atom 3),(10, .atom 13),(32, .atom 5),(33, .atom 14)]) (s':=J7) Xq Ayw
   (Ah.append ⟨Av (c:=true) (a:=i) (b:=all.length) rfl rfl rfl (by simp only [Aq];rw [decide_eq_true (by omega)]) (by decide) rfl,trivial⟩
   ⟨G4 rfl rfl hx rfl rfl,Ef (a:=c.toNat) (b:=48) (p:=.int .u8 ((c.toNat:Int) - 48)) rfl rfl (by simp only [Aq];rw [e6]) rfl (by decide) rfl,Aut rfl rfl (by omega) rfl,Bm (a:=-9223372036854775808) (b:=(c.toNat:Int) - 48) rfl rfl rfl (by simp only [Aq];rw [e1]) (by decide) rfl,
    Bm (a:=-9223372036854775808+((c.toNat:Int) - 48)) (b:=10) rfl rfl rfl (by simp [Aq];rw [e2]) (by decide) rfl,Av (c:=false) rfl rfl rfl (by simp only [Aq];rw [decide_eq_false hlt]) (by decide) rfl,
    Bm (a:=10) (b:=n) rfl rfl rfl (by simp only [Aq];rw [e3]) (by decide) rfl,Bm (a:=10*n) (b:=(c.toNat:Int) - 48) rfl rfl rfl (by simp only [Aq];rw [e4]) (by decide) rfl,Bm (a:=i) (b:=1) rfl rfl rfl (by simp only [Aq];rw [e5]) (by decide) rfl,trivial⟩) rfl rfl rfl
open Go Go.RowKit
theorem Aio:∀ {w:List UInt8},w.all isDigit=true→Lib.index w [46] = -1
 | [],_=>rfl
 | c::l,h=>by
  simp only [List.all_cons,Bool.and_eq_true] at h
  have hc:([46]:List UInt8).isPrefixOf (c::l)=false:=by
   have h1:=h.1
   simp only [isDigit,Bool.and_eq_true,decide_eq_true_eq] at h1
   simp only [List.isPrefixOf,Bool.and_true,beq_eq_false_iff_ne]
   intro e;subst e;simp at h1
  unfold Lib.index
  rw [hc,Aio h.2]
  rfl
theorem Ah4:∀ {w:List UInt8} (p:List UInt8),w.all isDigit=true→Lib.index (w++46::p) [46]=w.length
 | [],p,_=>by
  show Lib.index (46::p) [46]=0
  unfold Lib.index
  simp [List.isPrefixOf]
 | c::l,p,h=>by
  simp only [List.all_cons,Bool.and_eq_true] at h
  have hc:([46]:List UInt8).isPrefixOf (c::(l++46::p))=false:=by
   have h1:=h.1
   simp only [isDigit,Bool.and_eq_true,decide_eq_true_eq] at h1
   simp only [List.isPrefixOf,Bool.and_true,beq_eq_false_iff_ne]
   intro e;subst e;simp at h1
  show Lib.index (c::(l++46::p)) [46]=_
  unfold Lib.index
  rw [hc,Ah4 p h.2]
  have:((l.length:Int)==-1)=false:=by rw [beq_eq_false_iff_ne];omega
  simp [this]
theorem Avh {w:List UInt8} (h:w.all isDigit=true):Lib.cut w [46]=(w,[],false):=by
 unfold Lib.cut
 rw [Aio h];rfl
theorem Aur {w:List UInt8} (p:List UInt8) (h:w.all isDigit=true):Lib.cut (w++46::p) [46]=(w,p,true):=by
 unfold Lib.cut
 rw [Ah4 p h,if_pos (by omega),Int.toNat_natCast]
 simp
theorem Ahq:∀ (l:List UInt8) {n:Int},l.all isDigit=true→Ej l n≤10 ^ l.length*n
 | [],n,_=>by simp [Ej]
 | c::l,n,h=>by
  simp only [List.all_cons,Bool.and_eq_true] at h
  have h1:=h.1
  simp only [isDigit,Bool.and_eq_true,decide_eq_true_eq] at h1
  have:=Ahq l (n:=10*n - ((c.toNat:Int) - 48)) h.2
  have h3:(10:Int) ^ l.length*(10*n - ((c.toNat:Int) - 48))≤10 ^ l.length*(10*n):=Int.mul_le_mul_of_nonneg_left (by omega) (Int.pow_nonneg (by decide))
  have h4:(10:Int) ^ (l.length+1)*n=10 ^ l.length*(10*n):=by rw [Int.pow_succ,Int.mul_assoc]
  show Ej l (10*n - ((c.toNat:Int) - 48))≤10 ^ (l.length+1)*n
  rw [h4];omega
theorem Tu:∀ {l:List UInt8} {p:UInt8→Bool},l.all p=true→(Cc l).all p=true
 | [],_,_=>rfl
 | c::l,p,h=>by
  simp only [List.all_cons,Bool.and_eq_true] at h
  unfold Cc
  rw [List.dropWhile_cons]
  split
  ·exact Tu h.2
  ·simp [h.1,h.2]
theorem Ag1:∀ {l:List UInt8},l.all isDigit=true→-9223372036854775808≤Ej (Cc l) 0→(Cc l).length≤19
 | [],_,_=>by simp [Cc]
 | c::l,h,hb=>by
  simp only [List.all_cons,Bool.and_eq_true] at h
  unfold Cc at hb ⊢
  rw [List.dropWhile_cons] at hb ⊢
  split
  ·rename_i hc
   rw [if_pos hc] at hb
   exact Ag1 h.2 hb
  ·rename_i hc
   rw [if_neg hc] at hb
   have h1:=h.1
   simp only [isDigit,Bool.and_eq_true,decide_eq_true_eq] at h1
   have h48:c.toNat≠48:=fun e=>hc (by rw [beq_iff_eq,← UInt8.toNat_inj];exact e)
   have hb' : -9223372036854775808≤Ej l (10*0 - ((c.toNat:Int) - 48)):=hb
   have h2:=Ahq l (n:=10*0 - ((c.toNat:Int) - 48)) h.2
   have h3:(10:Int) ^ l.length*(10*0 - ((c.toNat:Int) - 48))≤10 ^ l.length*(-1):=Int.mul_le_mul_of_nonneg_left (by omega) (Int.pow_nonneg (by decide))
   rcases Nat.lt_or_ge l.length 19 with hl|hl
   ·rw [List.length_cons];omega
   ·have h4:(10:Int) ^ 19≤10 ^ l.length:=by exact_mod_cast Nat.pow_le_pow_right (by decide) hl
    have h5:(10:Int) ^ 19=10000000000000000000:=by decide
    omega
open Go Go.RowKit
theorem Yc (a b:Int):Aq .eql .i64 a b=some (.bool (a==b)):=rfl
def Adx (z:Bool):List Ao:=[oI .leq (.atom 0) (nI (-1000000000000000)) (.bool false),oI .geq (.atom 0) (nI 1000000000000000) (.bool false),oI .rem (.atom 0) (nI 10) (.atom 1),oI .eql (.atom 1) (nI 0) (.bool z)]
def Adr (k:Nat):List Ao:=[.op (.bin .eql M8) [.agg [nI 3, .atom 0,nI k, .str []], .agg [nI 3, .atom 0,nI k, .str []]] (.bool true)]
theorem Axj:bl (fun z=>A0 (.bool true) (Am PG (Aj An (Adx z++Adr 0)) 10 Nb [.agg [nI 3, .atom 0,nI 0, .str []]] []))=true:=by kernel_rfl
theorem Axx:((List.range 7).all fun k=>A0 (.bool true) (Am PG (Aj An (Adx false++Adr k)) 10 Nb [.agg [nI 3, .atom 0,nI k, .str []]] []))=true:=by kernel_rfl
theorem Agu {n:Int} {k:Nat} (h1 : -1000000000000000 < n) (h2:n < 1000000000000000) (hk:k≤6) (h3:k=0∨n.tmod 10≠0):Ev PG Nb [vP (3,n,k,[])] (.bool true):=by
 have hf:∀ z,(n.tmod 10==0)=z→Ah PG (Ab [nI n,nI (n.tmod 10)]) (Adx z++Adr k):=fun z hz =>
  Ah.append ⟨Av (c:=false) (a:=n) (b:=-1000000000000000) rfl rfl rfl (by simp only [Aq];rw [decide_eq_false (by omega)]) (by decide) rfl,Av (c:=false) (a:=n) (b:=1000000000000000) rfl rfl rfl (by simp only [Aq];rw [decide_eq_false (by omega)]) (by decide) rfl,
   Bm (a:=n) (b:=10) rfl rfl rfl (by simp [Aq]) (by decide) rfl,Av (c:=z) rfl rfl rfl (by rw [Yc,hz]) (by decide) rfl,trivial⟩ ⟨⟨Ahr (3,n,k,[]),rfl⟩,trivial⟩
 rcases Nat.eq_zero_or_pos k with rfl|hkp
 ·exact Ev.facts (args:=[.agg [nI 3, .atom 0,nI 0, .str []]]) Af (Ap rfl) (As (Bo Axj _)) (hf _ rfl) rfl rfl
 ·have hz:(n.tmod 10==0)=false:=by rw [beq_eq_false_iff_ne];rcases h3 with h3|h3<;>omega
  exact Ev.facts (args:=[.agg [nI 3, .atom 0,nI k, .str []]]) Af (Ap rfl) (As (List.all_eq_true.1 Axx k (by rw [List.mem_range];omega))) (hf _ hz) rfl rfl
def mtP (q:Bool):PV:=match q with|true=>.atom 3|false=>.atom 2
def Zb (b:Bool):PV:=match b with|true=>.atom 7|false=>.atom 8
def mtL (b q:Bool):Ao:=.loop Ge 9 [(1, .bool b),(4, .box 0 0),(7,mtP q),(8, .bool q),(9, .atom 5),(10,nI 0),(32, .atom 6),(33,nI 0)] J7 (.exit 0) [(1, .bool b),(4, .box 0 0),(7,mtP q),(8, .bool q),(10, .atom 7)] J7
def mtF (b q:Bool):List Ao:=[.prim Zv [.atom 0, .str [46]] (.tup [.atom 1, .atom 2, .bool q]), .prim V1 [.atom 2, .str [48]] (.atom 3), .op (.bin .add Ar) [.atom 1,mtP q] (.atom 4), .prim V2 [.atom 4, .str [48]] (.atom 5),
 .op (.len Ar) [.atom 5] (.atom 6),oI .gtr (.atom 6) (nI 19) (.bool false),mtL b q]
def mtS:Bool→List Ao
 | true=>[]
 | false=>[oI .eql (.atom 7) (nI (-9223372036854775808)) (.bool false), .op (.un .neg) [.atom 7] (.atom 8)]
def Ax6 (b z:Bool):List Ao:=[.op (.len Ar) [.atom 3] (.atom 9),oI .eql (Zb b) (nI 0) (.bool z), .prim Nb [.agg [nI 3,Zb b,if z then nI 0 else .atom 9, .str []]] (.bool true)]
theorem Awp:bl (fun b=>A0 (.tup [.agg [nI 2,Zb b,nI 0, .str []], .bool true]) (Am PG (Aj An (mtF b false++mtS b)) 10 Ge [.atom 0, .bool b] []))=true:=by kernel_rfl
theorem Alc:bl (fun b=>bl fun z=>A0 (.tup [.agg [nI 3,Zb b,if z then nI 0 else .atom 9, .str []], .bool true]) (Am PG (Aj An (mtF b true++(mtS b++Ax6 b z))) 10 Ge [.atom 0, .bool b] []))=true:=by kernel_rfl
theorem A0c {nu:Nat→PV} {x r:PV} {n:Int} (h1:subD nu x=nI n) (h2:subD nu r=nI (-n)) (hn : -9223372036854775808 < n∧n≤9223372036854775807) (h3:C9 nu r=true):Dz PG nu (.op (.un .neg) [x] r):=by
 refine ⟨?_,h3⟩
 show S8 .neg (subD nu x)=some (subD nu r)
 rw [h1,h2]
 show some (PV.int .i64 (IntKind.i64.wrap (0 - n)))=_
 rw [Dn (by omega) (by omega),Int.zero_sub]
theorem Ahy {nu:Nat→PV} {x r:PV} {s:List UInt8} {n:Int} (h1:subD nu x = .str s) (hn:n=s.length) (h2:subD nu r=nI n) (h3:C9 nu r=true):Dz PG nu (.op (.len Ar) [x] r):=C2 h1 (by rw [h2,hn]) h3
def I4 (b:Bool) (n:Int):Int:=if b then n else -n
def Adv (s w p pt a all:List UInt8) (n:Int):List PV:=[.str s, .str w, .str p, .str pt, .str a, .str all,nI all.length,nI n,nI (-n),nI pt.length]
section
variable {s w p:List UInt8}
theorem Akb (b q:Bool) (hlen:s.length≤4000000000) (hcut:Lib.cut s [46]=(w,p,q)) (hw:w.length≤4000000000) (hp:p.length≤4000000000) {pt:List UInt8} (hpt:pt=if q then Dw p else p) (hd:(w++pt).all isDigit=true) (hb : -9223372036854775808≤Ej (Cc (w++pt)) 0) :
  Ah PG (Ab (Adv s w p (Dw p) (w++pt) (Cc (w++pt)) (Ej (Cc (w++pt)) 0))) (mtF b q):=by
 have hc:=Aj9 s [46] (by omega)
 rw [hcut] at hc
 have htr:=Ang p (by omega)
 have hall:=Ag1 hd hb
 have hdg:=Tu hd
 have hl:=Atz b q pt hall (Cc (w++pt)) 0 0 rfl (Nat.zero_le _) hdg (Int.le_refl 0) hb
 have hptl:pt.length≤4000000000:=by
  rw [hpt]
  cases q with
  | false=>exact hp
  | true =>
   have:(Dw p).length≤p.length:=by
    unfold Dw Cc
    rw [List.length_reverse]
    have:=(List.dropWhile_suffix (l:=p.reverse) (· == 48)).length_le
    simpa using this
   show (Dw p).length≤_
   omega
 cases q with
 | false =>
  have hpt:pt=p:=hpt
  subst hpt
  exact ⟨Ai hc rfl rfl rfl,Ai htr rfl rfl rfl,Ax (l:=w) (m:=pt) rfl rfl (by omega) rfl rfl,Ai (Afx _) rfl rfl rfl,C2 rfl rfl rfl,Av (c:=false) (a:=(Cc (w++pt)).length) (b:=19) rfl rfl rfl (by simp only [Aq];rw [decide_eq_false (by omega)]) (by decide) rfl,Ho Xq (Nat.le_refl _) hl rfl,trivial⟩
 | true =>
  have hpt:pt=Dw p:=hpt
  subst hpt
  exact ⟨Ai hc rfl rfl rfl,Ai htr rfl rfl rfl,Ax (l:=w) (m:=Dw p) rfl rfl (by omega) rfl rfl,Ai (Afx _) rfl rfl rfl,C2 rfl rfl rfl,Av (c:=false) (a:=(Cc (w++Dw p)).length) (b:=19) rfl rfl rfl (by simp only [Aq];rw [decide_eq_false (by omega)]) (by decide) rfl,Ho Xq (Nat.le_refl _) hl rfl,trivial⟩
theorem Aj5 {nu:Nat→PV} (b:Bool) {n:Int} (h7:nu 7=nI n) (h8:nu 8=nI (-n)) (hn : -9223372036854775808≤n∧n≤0) (hb:b=false→n≠-9223372036854775808):Ah PG nu (mtS b):=by
 cases b with
 | true=>trivial
 | false =>
  have:=hb rfl
  exact ⟨Av (c:=false) (a:=n) (b:=-9223372036854775808) h7 rfl rfl (by rw [Yc,beq_eq_false_iff_ne.2 this]) (by decide) rfl,A0c h7 h8 (by omega) (by show (nu 8).one=true;rw [h8];rfl),trivial⟩
theorem Ahk (b:Bool) (hlen:s.length≤4000000000) (hd:s.all isDigit=true) (hb : -9223372036854775808≤Ej (Cc s) 0) (hb2:b=false→Ej (Cc s) 0≠-9223372036854775808) :
  Ev PG Ge [.str s, .bool b] (.tup [vP (2,I4 b (Ej (Cc s) 0),0,[]), .bool true]):=by
 have e:s++[]=s:=List.append_nil s
 have hf:=Akb b false hlen (Avh hd) hlen (by simp) (pt:=[]) rfl (by rw [e];exact hd) (by rw [e];exact hb)
 rw [e] at hf
 have h0:=Xm (Cc s) (n:=0) (Tu hd) (Int.le_refl 0)
 have hs:=Aj5 (nu:=Ab (Adv s s [] (Dw []) s (Cc s) (Ej (Cc s) 0))) b rfl rfl ⟨hb,h0⟩ hb2
 have hk:=As (Bo Awp b)
 cases b with
 | true=>exact Ev.facts (args:=[.atom 0, .bool true]) Af (Ap rfl) hk (Ah.append hf hs) rfl rfl
 | false=>exact Ev.facts (args:=[.atom 0, .bool false]) Af (Ap rfl) hk (Ah.append hf hs) rfl rfl
theorem Ap4 (b:Bool) (hlen:s.length≤4000000000) (hs:s=w++46::p) (hdw:w.all isDigit=true) (hdp:p.all isDigit=true) {n:Int} (hn:Ej (Cc (w++Dw p)) 0=n) (hb : -1000000000000000 < n) (hk:n=0∨((Dw p).length≤6∧((Dw p).length=0∨n.tmod 10≠0))) :
  Ev PG Ge [.str s, .bool b] (.tup [vP (3,I4 b n,if n=0 then 0 else ((Dw p).length:Nat),[]), .bool true]):=by
 have hl:w.length+(p.length+1)=s.length:=by rw [hs];simp
 have hdt:(Dw p).all isDigit=true:=by
  unfold Dw
  rw [List.all_reverse]
  exact Tu (by rw [List.all_reverse];exact hdp)
 have hd:(w++Dw p).all isDigit=true:=by rw [List.all_append,hdw,hdt];rfl
 have h0:=Xm (Cc (w++Dw p)) (n:=0) (Tu hd) (Int.le_refl 0)
 rw [hn] at h0
 have hf:=Akb b true hlen (by rw [hs];exact Aur p hdw) (by omega) (by omega) (pt:=Dw p) rfl hd (by rw [hn];omega)
 rw [hn] at hf
 have hs2:=Aj5 (nu:=Ab (Adv s w p (Dw p) (w++Dw p) (Cc (w++Dw p)) n)) b rfl rfl ⟨by omega,h0⟩ (fun _=>by omega)
 by_cases hz:n=0
 ·subst hz
  rw [if_pos rfl]
  have hr:=Agu (n:=I4 b 0) (k:=0) (by cases b<;>decide) (by cases b<;>decide) (by decide) (.inl rfl)
  have hk:=As (Bo (Bo Alc b) true)
  cases b with
  | true=>exact Ev.facts (args:=[.atom 0, .bool true]) Af (Ap rfl) hk (Ah.append hf (Ah.append hs2 ⟨C2 rfl rfl rfl,Av (c:=true) (a:=0) (b:=0) rfl rfl rfl rfl (by decide) rfl,Ai hr rfl rfl rfl,trivial⟩)) rfl rfl
  | false=>exact Ev.facts (args:=[.atom 0, .bool false]) Af (Ap rfl) hk (Ah.append hf (Ah.append hs2 ⟨C2 rfl rfl rfl,Av (c:=true) (a:=-0) (b:=0) rfl rfl rfl rfl (by decide) rfl,Ai hr rfl rfl rfl,trivial⟩)) rfl rfl
 ·rw [if_neg hz]
  obtain ⟨hk6,hk0⟩:=hk.resolve_left hz
  have hmod:(Dw p).length=0∨(I4 b n).tmod 10≠0:=by
   rcases hk0 with h|h
   ·exact .inl h
   ·refine .inr ?_
    cases b with
    | true=>exact h
    | false=>show (-n).tmod 10≠0;rw [Int.neg_tmod];omega
  have hv : -1000000000000000 < I4 b n∧I4 b n < 1000000000000000:=by
   cases b with
   | true=>show -1000000000000000 < n∧n < 1000000000000000;omega
   | false=>show -1000000000000000 < -n∧-n < 1000000000000000;omega
  have hr:=Agu (n:=I4 b n) (k:=(Dw p).length) hv.1 hv.2 hk6 hmod
  have hk:=As (Bo (Bo Alc b) false)
  have hnz:¬ I4 b n=0:=by cases b with|true=>exact hz|false=>show ¬ -n=0;omega
  cases b with
  | true=>exact Ev.facts (args:=[.atom 0, .bool true]) Af (Ap rfl) hk (Ah.append hf (Ah.append hs2 ⟨C2 rfl rfl rfl,Av (c:=false) (a:=n) (b:=0) rfl rfl rfl (by rw [Yc,beq_eq_false_iff_ne.2 hz]) (by decide) rfl,Ai hr rfl rfl rfl,trivial⟩)) rfl rfl
  | false=>exact Ev.facts (args:=[.atom 0, .bool false]) Af (Ap rfl) hk (Ah.append hf (Ah.append hs2 ⟨C2 rfl rfl rfl,Av (c:=false) (a:=-n) (b:=0) rfl rfl rfl (by rw [Yc,show (-n==0)=false from beq_eq_false_iff_ne.2 hnz]) (by decide) rfl,Ai hr rfl rfl rfl,trivial⟩)) rfl rfl
end
open Go Go.RowKit
def dgF (k:Nat):List Ao :=
 [.prim Hm [.atom 0, .atom 1, .fn Lc [] []] (.atom 2),oI .add (.atom 2) (nI 1) (.atom 3), .op (.len Ar) [.atom 0] (.atom 4)] ++
 match k with
 | 0=>[oI .lss (.atom 3) (.atom 4) (.bool false)]
 | 1=>[oI .lss (.atom 3) (.atom 4) (.bool true), .op (.index Ar) [.atom 0, .atom 2] (.atom 5),bI .eql (.atom 5) 46 false]
 | _=>[oI .lss (.atom 3) (.atom 4) (.bool true), .op (.index Ar) [.atom 0, .atom 2] (.atom 5),bI .eql (.atom 5) 46 true, .op (.index Ar) [.atom 0, .atom 3] (.atom 6), .prim Lc [.atom 6] (.bool true), .prim Hm [.atom 0, .atom 3, .fn Lc [] []] (.atom 7)]
def dgT (k:Nat):PV:=match k with|0|1=>.atom 2|_=>.atom 7
def dgE (k:Nat):List Ao:=[.op (.slice Ar true true) [.atom 0, .atom 1,dgT k] (.atom 8), .prim Ge [.atom 8, .bool true] (.tup [.agg [.atom 10, .atom 11, .atom 12, .atom 13], .bool true])]
theorem Adt:((List.range 3).all fun k=>A0 (.tup [H7 (nI 3) (.atom 1) (.atom 8) (nI 0) (nI 0) (nI 0) (.str []) (nI 0),dgT k]) (Am PG (Aj An (dgF k++dgE k)) 10 Tf [.atom 0,Jo (.atom 1)] []))=true:=by kernel_rfl
def Adu (s:List UInt8) (i j:Nat) (c c2:UInt8) (t:Nat) (w:List UInt8) (v:V4):List PV:=[.str s,nI i,nI j,nI (j+1:Nat),nI s.length,nB c,nB c2,nI t, .str w,nI 0,nI v.1,nI v.2.1,nI v.2.2.1, .str v.2.2.2]
def Rh (w:List UInt8) (a:Nat):Sg:=⟨3,a,w,v0,0⟩
theorem Afi {s:List UInt8} {i:Nat} {w t:List UInt8} (h:s.drop i=w++t):(s.take (i+w.length)).drop i=w:=by
 rw [List.drop_take,Nat.add_sub_cancel_left,h];simp
section
variable {s:List UInt8} {i:Nat} {w rest:List UInt8} {v:V4}
theorem Aoe (hs:s.length≤9223372036854775805) (hi:i≤s.length) (h:s.drop i=w++rest) (hw:w.all isDigit=true) (hr:Jw isDigit rest=true) (hr2:rest[0]? ≠ some 46) (hm:Ev PG Ge [.str w, .bool true] (.tup [vP v, .bool true])) :
  Ev PG Tf [.str s,Ir 0 i [] 0] (.tup [(Rh w i).pv,nI (i+w.length:Nat)]):=by
 have hp:=Aak (s:=s) (by omega) i hi
 rw [Jt h hw hr] at hp
 have hl:i+w.length+rest.length=s.length:=by
  have:=congrArg List.length h
  simp only [List.length_drop,List.length_append] at this
  omega
 have e3:IntKind.i64.wrap (((i+w.length:Nat):Int)+1)=((i+w.length+1:Nat):Int):=by rw [Dn (by omega) (by omega)];omega
 have hsl:=Afi h
 by_cases h1:i+w.length+1 < s.length
 ·obtain ⟨c,t,hrest⟩:∃ c t,rest=c::t:=by
   cases rest with
   | nil=>simp at hl;omega
   | cons c t=>exact ⟨c,t,rfl⟩
  have hc:=B6 h
  rw [hrest] at hc
  obtain ⟨_,hcc⟩:=D7 hc
  have hne:c≠46:=fun e=>hr2 (by rw [hrest,e];rfl)
  exact Ev.facts (nu:=Ab (Adu s i (i+w.length) c 0 0 w v)) (args:=[.atom 0,Jo (.atom 1)]) Af (Ap rfl) (As (List.all_eq_true.1 Adt 1 (by decide)))
   (Ah.append ⟨Ai hp rfl rfl rfl,Bm (a:=(i+w.length:Nat)) (b:=1) rfl rfl rfl (by simp only [Aq];rw [e3]) (by decide) rfl,C2 rfl rfl rfl,Av (c:=true) (a:=(i+w.length+1:Nat)) (b:=s.length) rfl rfl rfl (by simp only [Aq];rw [decide_eq_true (by omega)]) (by decide) rfl,G4 rfl rfl hcc rfl rfl,
    Ef (a:=(c.toNat:Nat)) (b:=(46:Nat)) rfl rfl (Gz (c:=c) (n:=46) (b:=false) (by decide) (beq_eq_false_iff_ne.2 hne)) rfl (by decide) rfl,trivial⟩ ⟨Pe (i:=i) (j:=i+w.length) rfl rfl rfl (by omega) hsl rfl rfl,Ai hm rfl rfl rfl,trivial⟩) rfl rfl
 ·exact Ev.facts (nu:=Ab (Adu s i (i+w.length) 0 0 0 w v)) (args:=[.atom 0,Jo (.atom 1)]) Af (Ap rfl) (As (List.all_eq_true.1 Adt 0 (by decide)))
   (Ah.append ⟨Ai hp rfl rfl rfl,Bm (a:=(i+w.length:Nat)) (b:=1) rfl rfl rfl (by simp only [Aq];rw [e3]) (by decide) rfl,C2 rfl rfl rfl,Av (c:=false) (a:=(i+w.length+1:Nat)) (b:=s.length) rfl rfl rfl (by simp only [Aq];rw [decide_eq_false (by omega)]) (by decide) rfl,trivial⟩ ⟨Pe (i:=i) (j:=i+w.length) rfl rfl rfl (by omega) hsl rfl rfl,Ai hm rfl rfl rfl,trivial⟩) rfl rfl
theorem Aoc {d:UInt8} {p:List UInt8} (hs:s.length≤9223372036854775805) (hi:i≤s.length) (h:s.drop i=w++(46::((d::p)++rest))) (hw:w.all isDigit=true) (hp':(d::p).all isDigit=true) (hr:Jw isDigit rest=true) (hm:Ev PG Ge [.str (w++46::d::p), .bool true] (.tup [vP v, .bool true])) :
  Ev PG Tf [.str s,Ir 0 i [] 0] (.tup [(Rh (w++46::d::p) i).pv,nI (i+w.length+1+(p.length+1):Nat)]):=by
 have hp:=Aak (s:=s) (by omega) i hi
 rw [Jt h hw rfl] at hp
 have hl:i+w.length+(1+(p.length+1+rest.length))=s.length:=by
  have:=congrArg List.length h
  simp only [List.length_drop,List.length_append,List.length_cons] at this
  omega
 have e3:IntKind.i64.wrap (((i+w.length:Nat):Int)+1)=((i+w.length+1:Nat):Int):=by rw [Dn (by omega) (by omega)];omega
 have h1:=B6 h
 obtain ⟨_,hc1⟩:=D7 h1
 have h2:s.drop (i+w.length+1)=(d::p)++rest:=B6 (g:=[46]) h1
 obtain ⟨_,hc2⟩:=D7 (show s.drop (i+w.length+1)=d::(p++rest) from h2)
 have hp2:=Aak (s:=s) (by omega) (i+w.length+1) (by omega)
 rw [Jt h2 hp' hr] at hp2
 have hdg:=Uk d
 simp only [List.all_cons,Bool.and_eq_true] at hp'
 rw [hp'.1] at hdg
 have hsl:(s.take (i+w.length+1+(p.length+1))).drop i=w++46::d::p:=by
  have:=Afi (s:=s) (i:=i) (w:=w++46::d::p) (t:=rest) (by rw [h];simp)
  rw [show i+w.length+1+(p.length+1)=i+(w++46::d::p).length by simp;omega]
  exact this
 exact Ev.facts (nu:=Ab (Adu s i (i+w.length) 46 d (i+w.length+1+(p.length+1)) (w++46::d::p) v)) (args:=[.atom 0,Jo (.atom 1)]) Af (Ap rfl) (As (List.all_eq_true.1 Adt 2 (by decide)))
  (Ah.append ⟨Ai hp rfl rfl rfl,Bm (a:=(i+w.length:Nat)) (b:=1) rfl rfl rfl (by simp only [Aq];rw [e3]) (by decide) rfl,C2 rfl rfl rfl,Av (c:=true) (a:=(i+w.length+1:Nat)) (b:=s.length) rfl rfl rfl (by simp only [Aq];rw [decide_eq_true (by omega)]) (by decide) rfl,G4 rfl rfl hc1 rfl rfl,
   Ef (a:=(46:Nat)) (b:=(46:Nat)) rfl rfl (Gz (c:=46) (n:=46) (b:=true) (by decide) rfl) rfl (by decide) rfl,G4 rfl rfl hc2 rfl rfl,Ai hdg rfl rfl rfl,Ai hp2 rfl rfl rfl,trivial⟩ ⟨Pe (i:=i) (j:=i+w.length+1+(p.length+1)) rfl rfl rfl (by omega) hsl rfl rfl,Ai hm rfl rfl rfl,trivial⟩) rfl rfl
end
open Go Go.RowKit
section
variable {s:List UInt8} {i:Nat} {g:List UInt8}
theorem Ae1 {c:UInt8} (h:isDigit c=true):Bf c=false:=by
 simp only [isDigit,Bool.and_eq_true,decide_eq_true_eq] at h
 simp only [Bf,Bool.or_eq_false_iff,beq_eq_false_iff_ne]
 refine ⟨fun e=>?_,fun e=>?_⟩<;>subst e<;>simp at h
theorem Akm (hs:s.length≤9223372036854775805) (hi:i≤s.length) {c:UInt8} {w rest:List UInt8} {v:V4} (h:s.drop i=g++((c::w)++rest)) (hg:g.all Bf=true) (hw:(c::w).all isDigit=true) (hr:Jw isDigit rest=true) (hr2:rest[0]? ≠ some 46) (hm:Ev PG Ge [.str (c::w), .bool true] (.tup [vP v, .bool true])) :
  Rd s i (Rh (c::w) (i+g.length)) (i+g.length+(w.length+1)):=by
 have hc:isDigit c=true:=by simp only [List.all_cons,Bool.and_eq_true] at hw;exact hw.1
 have hp:=Jt h hg (by show (!Bf c)=true;rw [Ae1 hc];rfl)
 have hd:=B6 h
 obtain ⟨hil,hcc⟩:=D7 (show s.drop (i+g.length)=c::(w++rest) from hd)
 have hdg:=Aoe hs (by omega) hd hw hr hr2 hm
 refine ⟨?_,rfl,by show (3:Int)≠6;decide⟩
 exact Xn (s:=s) (by omega) i hi (c:=c) (x:=Rh (c::w) (i+g.length)) (te:=i+g.length+(w.length+1)) (by rw [hp];exact hcc) (fun e=>by subst e;cases hc) (.inr (.inl ⟨hc,by rw [hp];exact hdg⟩))
theorem rd_dec (hs:s.length≤9223372036854775805) (hi:i≤s.length) {c d:UInt8} {w p rest:List UInt8} {v:V4} (h:s.drop i=g++((c::w)++(46::((d::p)++rest)))) (hg:g.all Bf=true) (hw:(c::w).all isDigit=true) (hp':(d::p).all isDigit=true) (hr:Jw isDigit rest=true) (hm:Ev PG Ge [.str ((c::w)++46::d::p), .bool true] (.tup [vP v, .bool true])) :
  Rd s i (Rh ((c::w)++46::d::p) (i+g.length)) (i+g.length+(w.length+1)+1+(p.length+1)):=by
 have hc:isDigit c=true:=by simp only [List.all_cons,Bool.and_eq_true] at hw;exact hw.1
 have hp:=Jt h hg (by show (!Bf c)=true;rw [Ae1 hc];rfl)
 have hd:=B6 h
 obtain ⟨hil,hcc⟩:=D7 (show s.drop (i+g.length)=c::(w++(46::((d::p)++rest))) from hd)
 have hdg:=Aoc hs (by omega) hd hw hp' hr hm
 refine ⟨?_,rfl,by show (3:Int)≠6;decide⟩
 exact Xn (s:=s) (by omega) i hi (c:=c) (x:=Rh ((c::w)++46::d::p) (i+g.length)) (te:=i+g.length+(w.length+1)+1+(p.length+1)) (by rw [hp];exact hcc) (fun e=>by subst e;cases hc) (.inr (.inl ⟨hc,by rw [hp];exact hdg⟩))
def Yn (v:V4) (a:Nat):Sg:=⟨4,a,[],v,0⟩
theorem Atu (hs:s.length≤9223372036854775805) (hi:i≤s.length) {l rest:List UInt8} (h:s.drop i=g++(39::(Bv l++39::rest))) (hg:g.all Bf=true) (hl:l.length≤40) (hok:l.all F4=true) (hr:rest[0]? ≠ some 39) :
  Rd s i (Yn (4,0,0,l) (i+g.length)) (i+g.length+(Bv l).length+2):=by
 have hp:=Jt h hg rfl
 have hd:=B6 h
 obtain ⟨hil,hcc⟩:=D7 hd
 have ht:=Ase hs (i+g.length) hl hok hr hd
 refine ⟨?_,rfl,by show (4:Int)≠6;decide⟩
 exact Xn (s:=s) (by omega) i hi (c:=39) (x:=Yn (4,0,0,l) (i+g.length)) (te:=i+g.length+(Bv l).length+2) (by rw [hp];exact hcc) (fun e=>absurd e (by decide)) (.inr (.inr ⟨rfl,by rw [hp];exact ht⟩))
end
def K7 (j:Nat):PV:=.tup [.agg [.atom j, .atom (j+1), .atom (j+2), .atom (j+3)], .bool true]
def Sl (k n:Int):PV:=.tup [.agg [nI k,nI n,nI 0, .str []], .bool true]
theorem Axo:E1 (K7 4) (okD 10 9) (Am PG (Aj An [oI .eql (.atom 1) (nI 4) (.bool true),Bl (okD 1 9) (okD 10 9)]) 20 I7 [.box 0 0] (okD 1 9))=true:=by kernel_rfl
theorem Axv:E1 (K7 20) (okD 10 9) (Am PG (Aj An [oI .eql (.atom 1) (nI 4) (.bool false),oI .eql (.atom 1) (nI 3) (.bool true), .prim Ge [.atom 3, .bool false] (K7 20),Bl (okD 1 9) (okD 10 9)]) 20 I7 [.box 0 0] (okD 1 9))=true:=by kernel_rfl
def Vo (b1 b2 b3:Bool):List Ao:=[oI .eql (.atom 1) (nI 4) (.bool false),oI .eql (.atom 1) (nI 3) (.bool false),D2 (okD 1 9) "true" b1,D2 (okD 1 9) "false" b2,D2 (okD 1 9) "null" b3]
theorem Awr:E1 (Sl 1 1) (okD 10 9) (Am PG (Aj An (Vo true false false++[Bl (okD 1 9) (okD 10 9)])) 20 I7 [.box 0 0] (okD 1 9))=true:=by kernel_rfl
theorem Avz:E1 (Sl 1 0) (okD 10 9) (Am PG (Aj An (Vo false true false++[Bl (okD 1 9) (okD 10 9)])) 20 I7 [.box 0 0] (okD 1 9))=true:=by kernel_rfl
theorem Aww:E1 (Sl 0 0) (okD 10 9) (Am PG (Aj An (Vo false false true++[Bl (okD 1 9) (okD 10 9)])) 20 I7 [.box 0 0] (okD 1 9))=true:=by kernel_rfl
theorem Ax1:E1 (K7 20) (okD 30 9) (Am PG (Aj An (Vo false false false++[D2 (okD 1 9) "-" true, .prim Iw [.atom 0, .atom 8] (.tup [H7 (.atom 10) (.atom 11) (.atom 12) (.atom 13) (.atom 14) (.atom 15) (.atom 16) (nI 0), .atom 17]),oI .neq (.atom 10) (nI 3) (.bool false),Bl (okD 1 9) (okD 10 9), .prim Ge [.atom 12, .bool true] (K7 20),Bl (okD 10 9) (okD 30 9)])) 20 I7 [.box 0 0] (okD 1 9))=true:=by kernel_rfl
def Lx (s:List UInt8) (x:Sg) (tt dp:Nat) (v:V4) (z:Sg) (tz:Nat):Prop:=EvS PG I7 [.box 0 0] (Db s x tt dp) (.tup [vP v, .bool true]) (Db s z tz dp)
def Dj (v:V4):List PV:=[nI v.1,nI v.2.1,nI v.2.2.1, .str v.2.2.2]
def P4 (s:List UInt8) (x:Sg) (tt dp:Nat) (y:Sg) (tu:Nat) (v:V4) (z:Sg) (tz:Nat):List PV:=PV.str s::(sv x tt++(nI dp::(sv y tu++([nI 0,nI 0]++(Dj v++([nI 0,nI 0,nI 0,nI 0,nI 0,nI 0]++sv z tz))))))
section
variable {s:List UInt8} {x y z:Sg} {tt tu tz:Nat} (dp:Nat) {v:V4}
theorem Afh (hk:x.k=4) (hv:x.v=v) (hy:Rd s tt y tu):Lx s x tt dp v y tu:=by
 subst hv
 exact EvS.facts (nu:=Ab (P4 s x tt dp y tu v0 y tu)) (args:=[.box 0 0]) (s:=okD 1 9) (s':=okD 10 9) (r:=K7 4) Af (Ap rfl) (Dt Axo)
  ⟨Av (c:=true) rfl rfl rfl (by rw [Hu,hk];rfl) (by decide) rfl,Aw (A8 x dp hy) rfl rfl rfl rfl rfl,trivial⟩ rfl rfl rfl
theorem Ago (hk:x.k=3) (hm:Ev PG Ge [.str x.w, .bool false] (.tup [vP v, .bool true])) (hy:Rd s tt y tu):Lx s x tt dp v y tu :=
 EvS.facts (nu:=Ab (P4 s x tt dp y tu v y tu)) (args:=[.box 0 0]) (s:=okD 1 9) (s':=okD 10 9) (r:=K7 20) Af (Ap rfl) (Dt Axv)
  ⟨Av (c:=false) rfl rfl rfl (by rw [Hu,hk];rfl) (by decide) rfl,Av (c:=true) rfl rfl rfl (by rw [Hu,hk];rfl) (by decide) rfl,Ai hm rfl rfl rfl,Aw (A8 x dp hy) rfl rfl rfl rfl rfl,trivial⟩ rfl rfl rfl
theorem Yb {nu:Nat→PV} {b1 b2 b3:Bool} (h1:nu 1=nI x.k) (h0:(okD 1 9).map (Bz nu)=Db s x tt dp) (hk4:x.k≠4) (hk3:x.k≠3) (e1:Bn x (kw "true")=b1) (e2:Bn x (kw "false")=b2) (e3:Bn x (kw "null")=b3):Ah PG nu (Vo b1 b2 b3) :=
 ⟨Av (c:=false) h1 rfl rfl (by rw [Hu,beq_eq_false_iff_ne.2 hk4]) (by decide) rfl,Av (c:=false) h1 rfl rfl (by rw [Hu,beq_eq_false_iff_ne.2 hk3]) (by decide) rfl,C6 h0 e1 rfl,C6 h0 e2 rfl,C6 h0 e3 rfl,trivial⟩
theorem Aoj (hx:Bn x (kw "true")=true) (h2:Bn x (kw "false")=false) (h3:Bn x (kw "null")=false) (hk4:x.k≠4) (hk3:x.k≠3) (hy:Rd s tt y tu):Lx s x tt dp (1,1,0,[]) y tu :=
 EvS.facts (nu:=Ab (P4 s x tt dp y tu v0 y tu)) (args:=[.box 0 0]) (s:=okD 1 9) (s':=okD 10 9) (r:=Sl 1 1) Af (Ap rfl) (Dt Awr) (Ah.append (Yb dp rfl rfl hk4 hk3 hx h2 h3) ⟨Aw (A8 x dp hy) rfl rfl rfl rfl rfl,trivial⟩) rfl rfl rfl
theorem Anw (hx:Bn x (kw "true")=false) (h2:Bn x (kw "false")=true) (h3:Bn x (kw "null")=false) (hk4:x.k≠4) (hk3:x.k≠3) (hy:Rd s tt y tu):Lx s x tt dp (1,0,0,[]) y tu :=
 EvS.facts (nu:=Ab (P4 s x tt dp y tu v0 y tu)) (args:=[.box 0 0]) (s:=okD 1 9) (s':=okD 10 9) (r:=Sl 1 0) Af (Ap rfl) (Dt Avz) (Ah.append (Yb dp rfl rfl hk4 hk3 hx h2 h3) ⟨Aw (A8 x dp hy) rfl rfl rfl rfl rfl,trivial⟩) rfl rfl rfl
theorem Aop (hx:Bn x (kw "true")=false) (h2:Bn x (kw "false")=false) (h3:Bn x (kw "null")=true) (hk4:x.k≠4) (hk3:x.k≠3) (hy:Rd s tt y tu):Lx s x tt dp v0 y tu :=
 EvS.facts (nu:=Ab (P4 s x tt dp y tu v0 y tu)) (args:=[.box 0 0]) (s:=okD 1 9) (s':=okD 10 9) (r:=Sl 0 0) Af (Ap rfl) (Dt Aww) (Ah.append (Yb dp rfl rfl hk4 hk3 hx h2 h3) ⟨Aw (A8 x dp hy) rfl rfl rfl rfl rfl,trivial⟩) rfl rfl rfl
theorem Agv (hx:Bn x (kw "true")=false) (h2:Bn x (kw "false")=false) (h3:Bn x (kw "null")=false) (hk4:x.k≠4) (hk3:x.k≠3) (hm:Bn x (kw "-")=true) (hy:Rd s tt y tu) (hyk:y.k=3) (hv:Ev PG Ge [.str y.w, .bool true] (.tup [vP v, .bool true])) (hz:Rd s tu z tz):Lx s x tt dp v z tz:=by
 have he:=hy.ev
 have h0:=hy.e
 have hn1:=A8 x dp hy
 have hn2:=A8 y dp hz
 obtain ⟨k,a,w,v',e⟩:=y
 dsimp only at h0 hyk hv
 subst h0
 subst hyk
 exact EvS.facts (nu:=Ab (P4 s x tt dp ⟨3,a,w,v',0⟩ tu v z tz)) (args:=[.box 0 0]) (s:=okD 1 9) (s':=okD 30 9) (r:=K7 20) Af (Ap rfl) (Dt Ax1)
  (Ah.append (Yb dp rfl rfl hk4 hk3 hx h2 h3) ⟨C6 rfl hm rfl,Ai he rfl rfl rfl,Av (c:=false) rfl rfl rfl (by rw [N4];rfl) (by decide) rfl,Aw hn1 rfl rfl rfl rfl rfl,Ai hv rfl rfl rfl,Aw hn2 rfl rfl rfl rfl rfl,trivial⟩) rfl rfl rfl
end
open Go Go.RowKit
def Al8 (j:Nat):PV:=Ew (nI 1) (.str []) (.atom j) (.atom (j+1)) (.atom (j+2)) (.atom (j+3)) .nilslice
def E7.lit (v:V4):E7:=⟨nI 1, .str [],nI v.1,nI v.2.1,nI v.2.2.1, .str v.2.2.2, .nilslice⟩
end Go.Proofs.YtdlkibeljkapeaaGreatDoor.Den
