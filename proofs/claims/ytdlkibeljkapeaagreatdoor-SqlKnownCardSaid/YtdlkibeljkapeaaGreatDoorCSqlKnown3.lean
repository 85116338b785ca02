-- Written by drive.py and pack.py (programs of this proof's own) through the kit's printer; not trusted: Lean checks it.
import Derived.Test.YtdlkibeljkapeaaGreatDoorCSqlKnown2
namespace Go.Proofs.YtdlkibeljkapeaaGreatDoor.Den
open Go Go.RowKit
theorem fn_of {P:Program} (g:FuncId) (h:(match P.funcs[g]? with|some fn=>!(fn.name == "runtime.NumGoroutine")&&fn.body.isSome|none=>false)=true):∃ fn,P.funcs[g]? = some fn∧(fn.name == "runtime.NumGoroutine")=false∧fn.body.isSome=true:=by
 split at h
 ·rename_i fn hf
  simp only [Bool.and_eq_true,Bool.not_eq_true'] at h
  exact ⟨fn,hf,h.1,h.2⟩
 ·cases h
theorem below_drewN (w:World) (n:Nat):Below w.heap.size w (w.drewN n):=⟨rfl,rfl,rfl,Nat.le_refl _,fun _ _=>rfl⟩
theorem below_grow (w:World) (k:Nat) (os:Array Obj):Below w.heap.size w (Sort.grow (w.drewN k) os):=by
 refine ⟨rfl,rfl,rfl,by show w.heap.size≤(w.heap++os).size;rw [Array.size_append];omega,fun i hi=>?_⟩
 have h:i < (w.drewN k).heap.size:=hi
 show ((w.drewN k).heap++os)[i]? = _
 rw [Array.getElem?_append_left h];rfl
theorem Iq {X:Map} {w:World} (h:X.Ok w):∃ m,w.cell? ⟨1,0,none⟩=some (.int .i64 m):=by
 obtain ⟨arr,e,fr,h1,_,_,h4⟩:=h.2 1 rfl
 obtain ⟨m,rfl⟩:=h4
 exact ⟨m,by simp [World.cell?,h1]⟩
theorem M7 {X:Map} {w:World} (h:X.Ok w):Lib.TabIs PG w "internal/strconv.uint64pow10" .u64 Lib.pow10Tab:=by
 obtain ⟨arr,e,fr,h1,_,_,h4⟩:=h.2 0 rfl
 have h4':arr=(Lib.pow10Tab.map fun z=>Value.int .u64 z).toArray:=h4
 have hg:PG.globalNamed "internal/strconv.uint64pow10" = some 0:=by kernel_rfl
 unfold Lib.TabIs World.var?
 rw [hg]
 simp only [Option.bind_some,h1,h4']
abbrev nI (n:Int):PV:=.int .i64 n
theorem O1 (X:Map) (a b:List UInt8) (c:Bool):R X (.tup [.str a, .str b, .bool c]) (.tuple #[.string ⟨a.toArray⟩, .string ⟨b.toArray⟩, .bool c]):=by
 refine .tup _ _ rfl fun j p hp=>?_
 match j,hp with
 | 0,hp=>cases hp;exact .str ⟨a.toArray⟩
 | 1,hp=>cases hp;exact .str ⟨b.toArray⟩
 | 2,hp=>cases hp;exact .bool c
theorem He (s sep:List UInt8) (hs:s.length < 4294967281):Ev PG Gh [.str s, .str sep] (.tup [.str (Lib.cut s sep).1, .str (Lib.cut s sep).2.1, .bool (Lib.cut s sep).2.2]):=by
 refine Ev.ofCalls (fn_of _ (by kernel_rfl)) fun X w vs a1 a2 a3=>?_
 obtain ⟨u,v,rfl,r1,r2⟩:=vs_two a1 a2
 rw [r1.str_inv,r2.str_inv]
 obtain ⟨m,hm⟩:=Iq a3
 refine (Go.Proofs.Tryz.strings_Cut ⟨s.toArray⟩ ⟨sep.toArray⟩ m w (by show s.toArray.size < _;simpa using hs) hm).mono ?_
 rintro e w' ⟨he,n,rfl⟩
 exact ⟨⟨_,he,O1 X _ _ _⟩,below_drewN w n⟩
theorem E5 (n:Int) (h : -9223372036854775808≤n∧n≤9223372036854775807):Ev PG Ep [nI n] (.str (Lib.itoa n)):=by
 refine Ev.ofCalls (fn_of _ (by kernel_rfl)) fun X w vs a1 a2 a3=>?_
 obtain ⟨u,rfl,r1⟩:=vs_one a1 a2
 rw [r1.int_inv]
 refine (Go.Proofs.Tryz.strconv_Itoa n h.1 h.2 w (M7 a3)).mono ?_
 rintro e w' ⟨he,k,os,rfl⟩
 exact ⟨⟨_,he, .str ⟨(Lib.itoa n).toArray⟩⟩,below_grow w k os⟩
theorem If (s old new:List UInt8) (hs:s.length < 4294967281) (h1:1≤old.length) (hlen:s.length+Lib.countB ⟨s.toArray⟩ ⟨old.toArray⟩*new.length≤140737488355328):Ev PG F8 [.str s, .str old, .str new] (.str (Lib.replaceAll s old new)):=by
 refine Ev.ofCalls (fn_of _ (by kernel_rfl)) fun X w vs a1 a2 a3=>?_
 obtain ⟨u,v,t,rfl,r1,r2,r3⟩:=vs_three a1 a2
 rw [r1.str_inv,r2.str_inv,r3.str_inv]
 obtain ⟨m,hm⟩:=Iq a3
 refine (Go.Proofs.Tryz.strings_ReplaceAll ⟨s.toArray⟩ ⟨old.toArray⟩ ⟨new.toArray⟩ m w (by show s.toArray.size < _;simpa using hs) hm (by show 1≤old.toArray.size;simpa using h1) (by simpa [ByteArray.size] using hlen)).mono ?_
 rintro e w' ⟨he,bel⟩
 exact ⟨⟨_,he, .str ⟨(Lib.replaceAll s old new).toArray⟩⟩,bel⟩
open Go Go.RowKit
def Ht (s:List UInt8):Fact:=.prim Gh [.str s, .str [46]] (.tup [.str (Lib.cut s [46]).1, .str (Lib.cut s [46]).2.1, .bool (Lib.cut s [46]).2.2])
def Hh (p:Int × List UInt8):Fact:=.prim Ep [nI p.1] (.str p.2)
def Ri:List (List UInt8):=["1", "2", "5", "1.50", "0.1234567", "9223372036854775808"].map bs
def Ph:List (Int × List UInt8):=[(-5,[45,53]),(1,[49]),(2,[50]),(5,[53]),(-15,[45,49,53]),(-9223372036854775808,[45,57,50,50,51,51,55,50,48,51,54,56,53,52,55,55,53,56,48,56]),(-1,[45,49])]
def Sl:Fact:=.prim F8 [.str (bs "it's"), .str [39], .str [39,39]] (.str (bs "it''s"))
def sF:List Fact:=kF++(Ri.map Ht++(Ph.map Hh++[Sl]))
open Go Go.RowKit
abbrev oI (op:BinOp) (x y r:PV):Fact:=.op (.bin op ty_int) [x,y] r
abbrev nB (c:UInt8):PV:=.int .u8 c.toNat
theorem fprim {nu:Nat→PV} {g:FuncId} {args:List PV} {r:PV} {a:List PV} {b:PV} (h:Ev PG g a b) (h1:args.map (subD nu)=a) (h2:subD nu r=b) (h3:oneB nu r=true):FactOk PG nu (.prim g args r):=⟨by rw [h1,h2];exact h,h3⟩
theorem u_string:PG.underlying ty_string=some .string:=by kernel_rfl
theorem fStrLen {nu:Nat→PV} {x r:PV} {s:List UInt8} (h1:subD nu x = .str s) (h2:subD nu r=nI s.length) (h3:oneB nu r=true):FactOk PG nu (.op (.len ty_string) [x] r):=by
 refine ⟨?_,h3⟩
 show lenP PG ty_string (subD nu x)=some (subD nu r)
 rw [h1,h2]
 unfold lenP
 rw [u_string]
theorem B6 {nu:Nat→PV} {x i r:PV} {s:List UInt8} {n:Nat} {c:UInt8} (h1:subD nu x = .str s) (h2:subD nu i=nI n) (h3:s[n]? = some c) (h4:subD nu r=nB c) (h5:oneB nu r=true):FactOk PG nu (.op (.index ty_string) [x,i] r):=by
 refine ⟨?_,h5⟩
 show indexP PG ty_string (subD nu x) (subD nu i)=some (subD nu r)
 rw [h1,h2,h4]
 unfold indexP
 rw [u_string]
 show (if (0:Int)≤(n:Int) then (match s[((n:Nat):Int).toNat]? with|some b=>some (PV.int .u8 b.toNat)|none=>none) else none)=_
 rw [if_pos (by omega),Int.toNat_natCast,h3]
theorem w6_id {n:Int} (h0 : -9223372036854775808≤n) (h1:n≤9223372036854775807):IntKind.i64.wrap n=n:=Go.IntWalk.i64_in _ ⟨h0,h1⟩
def Fp (g:FuncId):List (Nat × PV):=[(0, .atom 0),(1, .atom 1),(2, .fn g [] [])]
def Hy (b:Bool):List Fact:=[.op (.len ty_string) [.atom 0] (.atom 2),oI .lss (.atom 1) (.atom 2) (.bool b)]
def Fz (g:FuncId) (q:Bool):List Fact:=Hy true++[.op (.index ty_string) [.atom 0, .atom 1] (.atom 3), .prim g [.atom 3] (.bool q),oI .add (.atom 1) (nI 1) (.atom 4)]
noncomputable abbrev Ho (g:FuncId) (fs:List Fact):Option (Ex × St):=execN PG (fOrc noOwn fs) (callF PG (fOrc noOwn fs) 5) ((fOrc noOwn fs).loop A2) 5 3 (loopAt PG A2 1) ⟨Fp g,[]⟩
theorem E1:loneB PG A2 1=true:=by kernel_rfl
def Cb:List FuncId:=[Es,L1,Br,M8]
theorem Tz:(Cb.all fun g=>runsB (Ho g (Hy false)) (.exit 0) [(1, .atom 1)] [])=true:=by kernel_rfl
theorem Uc:(Cb.all fun g=>runsB (Ho g (Fz g false)) (.exit 0) [(1, .atom 1)] [])=true:=by kernel_rfl
theorem Rw:(Cb.all fun g=>runsB (Ho g (Fz g true)) .normal [(0, .atom 0),(1, .atom 4),(2, .fn g [] [])] [])=true:=by kernel_rfl
theorem Ry:(Cb.all fun g=>okR (.atom 2) (callF PG (fOrc noOwn [.loop A2 1 [(0, .atom 0),(1, .atom 1),(2, .fn g [] [])] [] (.exit 0) [(1, .atom 2)] []]) 5 A2 [.atom 0, .atom 1, .fn g [] []] []))=true:=by kernel_rfl
set_option maxRecDepth 20000 in
theorem Ob {g:FuncId} (hg:g∈Cb) {p:UInt8→Bool} (hp:∀ c,Ev PG g [nB c] (.bool (p c))) {s:List UInt8} (hs:s.length≤9223372036854775806):∀ (l:List UInt8) (i:Nat),s.drop i=l→i≤s.length →
  RunsR PG (ntOf PG A2) (loopAt PG A2 1) [(0, .str s),(1,nI i),(2, .fn g [] [])] [] (.exit 0) [(1,nI (i+(l.takeWhile p).length:Nat))] []:=by
 intro l
 induction l with
 | nil =>
  intro i hi h1
  have hlen:s.length≤i:=by
   have:=congrArg List.length hi
   simp at this;omega
  have hge:¬ ((i:Nat):Int) < (s.length:Int):=by omega
  refine RunsR.leave ?_ (fun h=>by cases h)
  exact RunsP.chk (nu:=nuL [.str s,nI i,nI s.length]) prog_ok (nuL_okB rfl) (T:=Fp g) (s:=[]) (T':=[(1, .atom 1)]) (s':=[]) E1 (List.all_eq_true.1 Tz g hg)
   ⟨fStrLen rfl rfl rfl,fCmp (c:=false) (a:=i) (b:=s.length) rfl rfl rfl (by simp only [intP];rw [decide_eq_false hge]) (by decide) rfl,trivial⟩ rfl rfl rfl
 | cons c l ih =>
  intro i hi h1
  have hx:s[i]? = some c:=by
   have:=congrArg (fun z=>z[0]?) hi
   simpa using this
  have hil:i < s.length:=(List.getElem?_eq_some_iff.1 hx).1
  have hl:s.drop (i+1)=l:=by
   have:=congrArg List.tail hi
   simpa using this
  have hlt:((i:Nat):Int) < (s.length:Int):=by omega
  have e4:IntKind.i64.wrap ((i:Int)+1)=((i+1:Nat):Int):=by rw [w6_id (by omega) (by omega)];omega
  have hf:∀ q,p c=q→FactsOk PG (nuL [.str s,nI i,nI s.length,nB c,nI (i+1:Nat)]) (Fz g q):=fun q hq=>by
   have hpc:=hp c
   rw [hq] at hpc
   unfold Fz Hy
   exact ⟨fStrLen rfl rfl rfl,fCmp (c:=true) (a:=i) (b:=s.length) rfl rfl rfl (by simp only [intP];rw [decide_eq_true hlt]) (by decide) rfl,B6 rfl rfl hx rfl rfl,fprim hpc rfl rfl rfl,fInt (a:=i) (b:=1) rfl rfl rfl (by simp only [intP];rw [e4]) (by decide) rfl,trivial⟩
  cases hq:p c with
  | false =>
   have e:((c::l).takeWhile p).length=0:=by simp [hq]
   rw [e]
   refine RunsR.leave ?_ (fun h=>by cases h)
   exact RunsP.chk (nu:=nuL [.str s,nI i,nI s.length,nB c,nI (i+1:Nat)]) prog_ok (nuL_okB rfl) (T:=Fp g) (s:=[]) (T':=[(1, .atom 1)]) (s':=[]) E1 (List.all_eq_true.1 Uc g hg) (hf false hq) rfl rfl rfl
  | true =>
   have e:i+((c::l).takeWhile p).length=i+1+(l.takeWhile p).length:=by simp [hq];omega
   rw [e]
   refine RunsR.round ?_ (ih (i+1) hl (by omega))
   exact RunsP.chk (nu:=nuL [.str s,nI i,nI s.length,nB c,nI (i+1:Nat)]) prog_ok (nuL_okB rfl) (T:=Fp g) (s:=[]) (T':=[(0, .atom 0),(1, .atom 4),(2, .fn g [] [])]) (s':=[]) E1 (List.all_eq_true.1 Rw g hg) (hf true hq) rfl rfl rfl
theorem Jp {g:FuncId} (hg:g∈Cb) {p:UInt8→Bool} (hp:∀ c,Ev PG g [nB c] (.bool (p c))) {s:List UInt8} (hs:s.length≤9223372036854775806) (i:Nat) (hi:i≤s.length) :
  Ev PG A2 [.str s,nI i, .fn g [] []] (nI (i+((s.drop i).takeWhile p).length:Nat)) :=
 Ev.facts (nu:=nuL [.str s,nI i,nI (i+((s.drop i).takeWhile p).length:Nat)]) prog_ok (nuL_okB rfl) (okR_eq (List.all_eq_true.1 Ry g hg)) ⟨fLoopOk E1 (Nat.le_refl _) (Ob hg hp hs (s.drop i) i rfl hi) rfl,trivial⟩ rfl rfl
open Go Go.RowKit
def Ae (c:UInt8):Bool:=c==32||c==10
def A5 (c:UInt8):Bool:=decide (97≤c.toNat)&&decide (c.toNat≤122)
def isDigit (c:UInt8):Bool:=decide (48≤c.toNat)&&decide (c.toNat≤57)
def G3 (c:UInt8):Bool:=A5 c||(isDigit c||c==95)
noncomputable def Qr (f:FuncId) (p:UInt8→Bool):Bool:=(List.range 256).all fun c=>okR (.bool (p (UInt8.ofNat c))) (callF PG noOrc 5 f [.int .u8 (c:Nat)] [])
theorem G9 {f:FuncId} {p:UInt8→Bool} (h:Qr f p=true) (c:UInt8):Ev PG f [nB c] (.bool (p c)):=by
 have hk:=List.all_eq_true.1 h c.toNat (by rw [List.mem_range];exact c.toNat_lt)
 have e:UInt8.ofNat c.toNat=c:=by simp
 rw [e] at hk
 exact Ev.ofD (nu:=nuL []) (args:=[nB c]) prog_ok (nuL_okB rfl) (noOrc_ok PG _) (okR_eq hk) (fun p hp=>by simp at hp;subst hp;exact ⟨rfl,rfl⟩) rfl rfl
theorem N7:∀ c,Ev PG Es [nB c] (.bool (Ae c)):=G9 (by kernel_rfl)
theorem Eu:∀ c,Ev PG D8 [nB c] (.bool (A5 c)):=G9 (by kernel_rfl)
theorem Ez:∀ c,Ev PG Br [nB c] (.bool (isDigit c)):=G9 (by kernel_rfl)
def Ai (p:UInt8→Bool) (s:List UInt8) (i:Nat):Nat:=i+((s.drop i).takeWhile p).length
theorem I1 {s:List UInt8} (hs:s.length≤9223372036854775806) (i:Nat) (hi:i≤s.length):Ev PG A2 [.str s,nI i, .fn Es [] []] (nI (Ai Ae s i)):=Jp (by simp [Cb]) N7 hs i hi
theorem M1 {s:List UInt8} (hs:s.length≤9223372036854775806) (i:Nat) (hi:i≤s.length):Ev PG A2 [.str s,nI i, .fn Br [] []] (nI (Ai isDigit s i)):=Jp (by simp [Cb]) Ez hs i hi
theorem C4 (l m:List UInt8):strP .eql l m=some (.bool (l==m)):=rfl
theorem Cc {nu:Nat→PV} {op:BinOp} {x y r:PV} {l m:List UInt8} {p:PV} (h1:subD nu x = .str l) (h2:subD nu y = .str m) (h:strP op l m=some p) (h3:subD nu r=p) (h4:oneB nu r=true):FactOk PG nu (.op (.bin op ty_string) [x,y] r):=by
 refine ⟨?_,h4⟩
 show binP PG op ty_string (subD nu x) (subD nu y)=some (subD nu r)
 rw [h1,h2,h3,← h]
 cases op<;>rfl
open Go Go.RowKit
open Go Go.RowKit
def Cf (k a w v0 v1 v2 v3 e:PV):PV:=.agg [k,a,w,v0,v1,v2,v3,e]
def Ek (k at_:Int) (w:List UInt8) (e:Int):PV:=Cf (nI k) (nI at_) (.str w) (nI 0) (nI 0) (nI 0) (.str []) (nI e)
theorem Jy {nu:Nat→PV} {x lo hi r:PV} {s w:List UInt8} {i j:Nat} (h1:subD nu x = .str s) (h2:subD nu lo=nI i) (h3:subD nu hi=nI j) (hij:i≤j∧j≤s.length) (hw:(s.take j).drop i=w) (h4:subD nu r = .str w) (h5:oneB nu r=true):FactOk PG nu (.op (.slice ty_string true true) [x,lo,hi] r):=by
 refine ⟨?_,h5⟩
 show sliceP PG ty_string (subD nu x) (some (subD nu lo)) (some (subD nu hi))=some (subD nu r)
 rw [h1,h2,h3,h4]
 unfold sliceP
 rw [u_string]
 have e1:optBound (some (nI j)) s.length s.length=some j:=by
  show (if 0≤(j:Int)∧(j:Int)≤(s.length:Int) then some ((j:Int).toNat) else none)=_
  rw [if_pos (by omega),Int.toNat_natCast]
 have e2:optBound (some (nI i)) j 0=some i:=by
  show (if 0≤(i:Int)∧(i:Int)≤(j:Int) then some ((i:Int).toNat) else none)=_
  rw [if_pos (by omega),Int.toNat_natCast]
 simp only [boundsP,e1,e2,hw]
theorem Ey {nu:Nat→PV} {x lo r:PV} {s w:List UInt8} {i:Nat} (h1:subD nu x = .str s) (h2:subD nu lo=nI i) (hij:i≤s.length) (hw:s.drop i=w) (h4:subD nu r = .str w) (h5:oneB nu r=true):FactOk PG nu (.op (.slice ty_string true false) [x,lo] r):=by
 refine ⟨?_,h5⟩
 show sliceP PG ty_string (subD nu x) (some (subD nu lo)) none=some (subD nu r)
 rw [h1,h2,h4]
 unfold sliceP
 rw [u_string]
 have e1:optBound none s.length s.length=some s.length:=rfl
 have e2:optBound (some (nI i)) s.length 0=some i:=by
  show (if 0≤(i:Int)∧(i:Int)≤(s.length:Int) then some ((i:Int).toNat) else none)=_
  rw [if_pos (by omega),Int.toNat_natCast]
 simp only [boundsP,e1,e2,List.take_length,hw]
theorem Bc {nu:Nat→PV} {op:BinOp} {x y r:PV} {a b:Int} {p:PV} (hx:subD nu x = .int .u8 a) (hy:subD nu y = .int .u8 b) (h:intP op .u8 a b=some p) (hr:subD nu r=p) (hs:op≠.shl∧op≠.shr) (h1:oneB nu r=true):FactOk PG nu (.op (.bin op ty_uint8) [x,y] r):=by
 refine ⟨?_,h1⟩
 show binP PG op ty_uint8 (subD nu x) (subD nu y)=some (subD nu r)
 rw [hx,hy,hr,← h]
 cases op<;>first|rfl|exact absurd rfl hs.1|exact absurd rfl hs.2
theorem Jw (p:UInt8→Bool) (s:List UInt8) (i:Nat) (hi:i≤s.length):i≤Ai p s i∧Ai p s i≤s.length:=by
 unfold Ai
 have h:(s.drop i).takeWhile p <+: s.drop i:=List.takeWhile_prefix p
 have:=h.length_le
 rw [List.length_drop] at this
 omega
def D5 (a:PV):PV:=Cf (nI 0) a (.str []) (nI 0) (nI 0) (nI 0) (.str []) (nI 0)
open Go Go.RowKit
abbrev V4:=Int × Int × Int × List UInt8
structure Sg where
 k:Int
 a:Int
 w:List UInt8
 v:V4
 e:Int
def Sg.pv (x:Sg):PV:=Cf (nI x.k) (nI x.a) (.str x.w) (nI x.v.1) (nI x.v.2.1) (nI x.v.2.2.1) (.str x.v.2.2.2) (nI x.e)
def v0:V4:=(0,0,0,[])
abbrev bI (op:BinOp) (x:PV) (n:Int) (b:Bool):Fact:=.op (.bin op ty_uint8) [x, .int .u8 n] (.bool b)
def H3:List Fact:=[.prim A2 [.atom 0, .atom 1, .fn Es [] []] (.atom 2), .op (.len ty_string) [.atom 0] (.atom 3),oI .eql (.atom 2) (.atom 3) (.bool false), .op (.index ty_string) [.atom 0, .atom 2] (.atom 4)]
def Kz:Nat→List Fact
 | 0=>[bI .eql (.atom 4) 120 false]
 | 1=>[bI .eql (.atom 4) 120 true,oI .add (.atom 2) (nI 1) (.atom 5),oI .lss (.atom 5) (.atom 3) (.bool false)]
 | _=>[bI .eql (.atom 4) 120 true,oI .add (.atom 2) (nI 1) (.atom 5),oI .lss (.atom 5) (.atom 3) (.bool true), .op (.index ty_string) [.atom 0, .atom 5] (.atom 6),bI .eql (.atom 6) 39 false]
def Fo:PV:=.tup [Cf (.atom 7) (.atom 8) (.atom 9) (.atom 10) (.atom 11) (.atom 12) (.atom 13) (.atom 14), .atom 15]
def K1:Nat→List Fact
 | 0=>[.prim D8 [.atom 4] (.bool true), .prim Ig [.atom 0,D5 (.atom 2)] Fo]
 | 1=>[.prim D8 [.atom 4] (.bool false), .prim Br [.atom 4] (.bool true), .prim Eq [.atom 0,D5 (.atom 2)] Fo]
 | _=>[.prim D8 [.atom 4] (.bool false), .prim Br [.atom 4] (.bool false),bI .eql (.atom 4) 39 true, .prim Ix [.atom 0,D5 (.atom 2)] Fo]
theorem Td:((List.range 3).all fun v=>(List.range 3).all fun w=>okR Fo (callF PG (fOrc noOwn (H3++(Kz v++K1 w))) 20 Bz [.atom 0, .atom 1] []))=true:=by kernel_rfl
def Fg (s:List UInt8) (i i':Nat) (c c2:UInt8) (x:Sg) (te:Nat):List PV :=
 [.str s,nI i,nI i',nI s.length,nB c,nI (i'+1:Nat),nB c2,nI x.k,nI x.a, .str x.w,nI x.v.1,nI x.v.2.1,nI x.v.2.2.1, .str x.v.2.2.2,nI x.e,nI te]
theorem Bm {c:UInt8} {n:Nat} {b:Bool} (hn:n < 256) (h:(c==UInt8.ofNat n)=b):intP .eql .u8 (c.toNat:Int) (n:Int)=some (.bool b):=by
 show some (PV.bool (((c.toNat:Nat):Int)==(n:Int)))=_
 rw [← h]
 congr 2
 refine Bool.eq_iff_iff.2 ?_
 simp only [beq_iff_eq]
 constructor
 ·intro h'
  have h2:c.toNat=n:=by omega
  rw [← h2];simp
 ·intro h'
  rw [h']
  simp only [UInt8.toNat_ofNat']
  omega
theorem N9 {s:List UInt8} (hs:s.length≤9223372036854775806) (i:Nat) (hi:i≤s.length) {c:UInt8} (hc:s[Ai Ae s i]? = some c) (hx:c=120→s[Ai Ae s i+1]? ≠ some 39) {x:Sg} {te:Nat}
  (h:(A5 c=true∧Ev PG Ig [.str s,Ek 0 (Ai Ae s i:Nat) [] 0] (.tup [x.pv,nI te])) ∨
   (isDigit c=true∧Ev PG Eq [.str s,Ek 0 (Ai Ae s i:Nat) [] 0] (.tup [x.pv,nI te])) ∨
   (c=39∧Ev PG Ix [.str s,Ek 0 (Ai Ae s i:Nat) [] 0] (.tup [x.pv,nI te]))):Ev PG Bz [.str s,nI i] (.tup [x.pv,nI te]):=by
 generalize hi':Ai Ae s i=i' at *
 have hb:=Jw Ae s i hi
 rw [hi'] at hb
 have hil:i' < s.length:=(List.getElem?_eq_some_iff.1 hc).1
 have hp:=I1 hs i hi
 rw [hi'] at hp
 have hne:¬ (i':Int)=(s.length:Int):=by omega
 obtain ⟨c2,hc2⟩:∃ c2:UInt8,(i'+1 < s.length→s[i'+1]? = some c2):=by
  by_cases h1:i'+1 < s.length
  ·exact ⟨s[i'+1],fun _=>List.getElem?_eq_getElem h1⟩
  ·exact ⟨0,fun h=>absurd h h1⟩
 have e5:IntKind.i64.wrap ((i':Int)+1)=((i'+1:Nat):Int):=by rw [w6_id (by omega) (by omega)];omega
 have fB:FactsOk PG (nuL (Fg s i i' c c2 x te)) H3:=⟨fprim hp rfl rfl rfl,fStrLen rfl rfl rfl,fCmp (c:=false) (a:=i') (b:=s.length) rfl rfl rfl (by show some (PV.bool ((i':Int)==(s.length:Int)))=_;rw [beq_eq_false_iff_ne.2 hne]) (by decide) rfl,B6 rfl rfl hc rfl rfl,trivial⟩
 have fX:∃ v,v < 3∧FactsOk PG (nuL (Fg s i i' c c2 x te)) (Kz v):=by
  by_cases h1:c=120
  ·subst h1
   by_cases h2:i'+1 < s.length
   ·refine ⟨2,by decide,Bc (a:=(120:Nat)) (b:=(120:Nat)) rfl rfl (Bm (c:=120) (n:=120) (b:=true) (by decide) rfl) rfl (by decide) rfl,fInt (a:=i') (b:=1) rfl rfl rfl (by simp only [intP];rw [e5]) (by decide) rfl,
     fCmp (c:=true) (a:=(i'+1:Nat)) (b:=s.length) rfl rfl rfl (by simp only [intP];rw [decide_eq_true (by omega)]) (by decide) rfl,B6 (s:=s) (n:=i'+1) (c:=c2) rfl rfl (hc2 h2) rfl rfl,?_,trivial⟩
    have h3:c2≠39:=fun e=>hx rfl (by rw [hc2 h2,e])
    exact Bc (a:=(c2.toNat:Nat)) (b:=(39:Nat)) rfl rfl (Bm (c:=c2) (n:=39) (b:=false) (by decide) (beq_eq_false_iff_ne.2 h3)) rfl (by decide) rfl
   ·exact ⟨1,by decide,Bc (a:=(120:Nat)) (b:=(120:Nat)) rfl rfl (Bm (c:=120) (n:=120) (b:=true) (by decide) rfl) rfl (by decide) rfl,fInt (a:=i') (b:=1) rfl rfl rfl (by simp only [intP];rw [e5]) (by decide) rfl,
     fCmp (c:=false) (a:=(i'+1:Nat)) (b:=s.length) rfl rfl rfl (by simp only [intP];rw [decide_eq_false (by omega)]) (by decide) rfl,trivial⟩
  ·exact ⟨0,by decide,Bc (a:=(c.toNat:Nat)) (b:=(120:Nat)) rfl rfl (Bm (c:=c) (n:=120) (b:=false) (by decide) (beq_eq_false_iff_ne.2 h1)) rfl (by decide) rfl,trivial⟩
 obtain ⟨v,hv,fX⟩:=fX
 have fin:∀ w,w < 3→FactsOk PG (nuL (Fg s i i' c c2 x te)) (K1 w)→Ev PG Bz [.str s,nI i] (.tup [x.pv,nI te]):=fun w hw fS =>
  Ev.facts (nu:=nuL (Fg s i i' c c2 x te)) (args:=[.atom 0, .atom 1]) prog_ok (nuL_okB rfl) (okR_eq (List.all_eq_true.1 (List.all_eq_true.1 Td v (by rw [List.mem_range];exact hv)) w (by rw [List.mem_range];exact hw))) (FactsOk.append fB (FactsOk.append fX fS)) rfl rfl
 rcases h with ⟨h1,h2⟩|⟨h1,h2⟩|⟨h1,h2⟩
 ·have hsm:=Eu c
  rw [h1] at hsm
  exact fin 0 (by decide) ⟨fprim hsm rfl rfl rfl,fprim h2 rfl rfl rfl,trivial⟩
 ·have h3:A5 c=false:=by
   simp only [isDigit,A5,Bool.and_eq_true,decide_eq_true_eq] at h1 ⊢
   rw [decide_eq_false (by omega)];rfl
  have hsm:=Eu c
  have hdg:=Ez c
  rw [h3] at hsm
  rw [h1] at hdg
  exact fin 1 (by decide) ⟨fprim hsm rfl rfl rfl,fprim hdg rfl rfl rfl,fprim h2 rfl rfl rfl,trivial⟩
 ·subst h1
  have hsm:=Eu 39
  have hdg:=Ez 39
  rw [show A5 39=false from rfl] at hsm
  rw [show isDigit 39=false from rfl] at hdg
  exact fin 2 (by decide) ⟨fprim hsm rfl rfl rfl,fprim hdg rfl rfl rfl,Bc (a:=(39:Nat)) (b:=(39:Nat)) rfl rfl (Bm (c:=39) (n:=39) (b:=true) (by decide) rfl) rfl (by decide) rfl,fprim h2 rfl rfl rfl,trivial⟩
open Go Go.RowKit
def Un (b:Bool) (q:Bool):List Fact:=[.op (.len ty_string) [.atom 0] (.atom 2), .op (.len ty_string) [.atom 1] (.atom 3),oI .geq (.atom 2) (.atom 3) (.bool b), .op (.slice ty_string false true) [.atom 0, .atom 3] (.atom 4), .op (.bin .eql ty_string) [.atom 4, .atom 1] (.bool q)]
theorem Qn:(bl fun q=>okR (.bool q) (callF PG (fOrc noOwn (Un true q)) 10 D7 [.atom 0, .atom 1] []))=true:=by kernel_rfl
theorem Q1:okR (.bool false) (callF PG (fOrc noOwn [.op (.len ty_string) [.atom 0] (.atom 2), .op (.len ty_string) [.atom 1] (.atom 3),oI .geq (.atom 2) (.atom 3) (.bool false)]) 10 D7 [.atom 0, .atom 1] [])=true:=by kernel_rfl
theorem D9 {nu:Nat→PV} {x hi r:PV} {s w:List UInt8} {j:Nat} (h1:subD nu x = .str s) (h3:subD nu hi=nI j) (hij:j≤s.length) (hw:s.take j=w) (h4:subD nu r = .str w) (h5:oneB nu r=true):FactOk PG nu (.op (.slice ty_string false true) [x,hi] r):=by
 refine ⟨?_,h5⟩
 show sliceP PG ty_string (subD nu x) none (some (subD nu hi))=some (subD nu r)
 rw [h1,h3,h4]
 unfold sliceP
 rw [u_string]
 have e1:optBound (some (nI j)) s.length s.length=some j:=by
  show (if 0≤(j:Int)∧(j:Int)≤(s.length:Int) then some ((j:Int).toNat) else none)=_
  rw [if_pos (by omega),Int.toNat_natCast]
 have e2:optBound none j 0=some 0:=rfl
 simp only [boundsP,e1,e2,List.drop_zero,hw]
theorem Il (a m:List UInt8):Ev PG D7 [.str a, .str m] (.bool (m.isPrefixOf a)):=by
 by_cases h:m.length≤a.length
 ·have e:m.isPrefixOf a=(a.take m.length==m):=by
   refine Bool.eq_iff_iff.2 ?_
   rw [List.isPrefixOf_iff_prefix,List.prefix_iff_eq_take,beq_iff_eq]
   exact eq_comm
  rw [e]
  exact Ev.facts (nu:=nuL [.str a, .str m,nI a.length,nI m.length, .str (a.take m.length)]) prog_ok (nuL_okB rfl) (okR_eq (bl_all Qn (a.take m.length==m)))
   ⟨fStrLen rfl rfl rfl,fStrLen rfl rfl rfl,fCmp (c:=true) (a:=a.length) (b:=m.length) rfl rfl rfl (by simp only [intP];rw [decide_eq_true (by omega)]) (by decide) rfl,D9 rfl rfl h rfl rfl rfl,Cc (l:=a.take m.length) (m:=m) rfl rfl (C4 _ _) rfl rfl,trivial⟩ rfl rfl
 ·have e:m.isPrefixOf a=false:=by
   rw [Bool.eq_false_iff]
   intro h'
   have:=(List.isPrefixOf_iff_prefix.1 h').length_le
   omega
  rw [e]
  exact Ev.facts (nu:=nuL [.str a, .str m,nI a.length,nI m.length]) (args:=[.atom 0, .atom 1]) prog_ok (nuL_okB rfl) (okR_eq Q1)
   ⟨fStrLen rfl rfl rfl,fStrLen rfl rfl rfl,fCmp (c:=false) (a:=a.length) (b:=m.length) rfl rfl rfl (by simp only [intP];rw [decide_eq_false (by omega)]) (by decide) rfl,trivial⟩ rfl rfl
def Ln (i:Nat):List Fact :=
 H3++([bI .eql (.atom 4) 120 false, .prim D8 [.atom 4] (.bool false), .prim Br [.atom 4] (.bool false),bI .eql (.atom 4) 39 false, .prim Et [] (Db Ds), .op (.slice ty_string true false) [.atom 0, .atom 2] (.atom 5),oI .add (.atom 2) (nI 1) (.atom 6),oI .add (.atom 2) (nI 2) (.atom 7)] ++
  (List.range (if i < 11 then i+1 else 11)).map fun j=>.prim D7 [.atom 5, .str (Ds.getD j [])] (.bool (Nat.beq j i)))
def As (i:Nat):List UInt8:=Ds.getD i []
theorem Si:((List.range 11).all fun i=>okR (.tup [Cf (nI 5) (.atom 2) (.str (As i)) (nI 0) (nI 0) (nI 0) (.str []) (nI 0),if i < 2 then .atom 7 else .atom 6]) (callF PG (fOrc noOwn (Ln i)) 20 Bz [.atom 0, .atom 1] []))=true:=by kernel_rfl
theorem O0 {s:List UInt8} (hs:s.length≤9223372036854775805) (i:Nat) (hi:i≤s.length) {c:UInt8} (hc:s[Ai Ae s i]? = some c) (h1:A5 c=false) (h2:isDigit c=false) (h3:c≠39) (m:Nat)
  (hm:∀ j,j < (if m < 11 then m+1 else 11)→(As j).isPrefixOf (s.drop (Ai Ae s i))=Nat.beq j m) :
  FactsOk PG (nuL [.str s,nI i,nI (Ai Ae s i:Nat),nI s.length,nB c, .str (s.drop (Ai Ae s i)),nI (Ai Ae s i+1:Nat),nI (Ai Ae s i+2:Nat)]) (Ln m):=by
 have hp:=I1 (by omega) i hi
 have hb:=Jw Ae s i hi
 generalize Ai Ae s i=i' at *
 have hil:i' < s.length:=(List.getElem?_eq_some_iff.1 hc).1
 have hne:¬ (i':Int)=(s.length:Int):=by omega
 have hsm:=Eu c
 have hdg:=Ez c
 rw [h1] at hsm
 rw [h2] at hdg
 have h4:c≠120:=fun e=>by subst e;cases h1
 have e1:IntKind.i64.wrap ((i':Int)+1)=((i'+1:Nat):Int):=by rw [w6_id (by omega) (by omega)];omega
 have e2:IntKind.i64.wrap ((i':Int)+2)=((i'+2:Nat):Int):=by rw [w6_id (by omega) (by omega)];omega
 refine FactsOk.append ⟨fprim hp rfl rfl rfl,fStrLen rfl rfl rfl,fCmp (c:=false) (a:=i') (b:=s.length) rfl rfl rfl (by show some (PV.bool ((i':Int)==(s.length:Int)))=_;rw [beq_eq_false_iff_ne.2 hne]) (by decide) rfl,B6 rfl rfl hc rfl rfl,trivial⟩
  (FactsOk.append ⟨Bc (a:=(c.toNat:Nat)) (b:=(120:Nat)) rfl rfl (Bm (c:=c) (n:=120) (b:=false) (by decide) (beq_eq_false_iff_ne.2 h4)) rfl (by decide) rfl,fprim hsm rfl rfl rfl,fprim hdg rfl rfl rfl,
   Bc (a:=(c.toNat:Nat)) (b:=(39:Nat)) rfl rfl (Bm (c:=c) (n:=39) (b:=false) (by decide) (beq_eq_false_iff_ne.2 h3)) rfl (by decide) rfl,fprim G1 rfl rfl rfl,Ey rfl rfl (by omega) rfl rfl rfl,
   fInt (a:=i') (b:=1) rfl rfl rfl (by simp only [intP];rw [e1]) (by decide) rfl,fInt (a:=i') (b:=2) rfl rfl rfl (by simp only [intP];rw [e2]) (by decide) rfl,trivial⟩ (FactsOk.of fun f hf=>?_))
 obtain ⟨j,hj,rfl⟩:=List.mem_map.1 hf
 rw [List.mem_range] at hj
 have hh:=Il (s.drop i') (As j)
 rw [hm j hj] at hh
 exact fprim hh rfl rfl rfl
theorem Nj {s:List UInt8} (hs:s.length≤9223372036854775805) (i:Nat) (hi:i≤s.length) {c:UInt8} (hc:s[Ai Ae s i]? = some c) (h1:A5 c=false) (h2:isDigit c=false) (h3:c≠39) (m:Nat) (hm11:m < 11)
  (hm:∀ j,j≤m→(As j).isPrefixOf (s.drop (Ai Ae s i))=Nat.beq j m):Ev PG Bz [.str s,nI i] (.tup [Ek 5 (Ai Ae s i:Nat) (As m) 0,nI (Ai Ae s i+(if m < 2 then 2 else 1):Nat)]):=by
 have hk:=okR_eq (List.all_eq_true.1 Si m (by rw [List.mem_range];exact hm11))
 have hf:=O0 hs i hi hc h1 h2 h3 m (fun j hj=>hm j (by rw [if_pos hm11] at hj;omega))
 by_cases hlt:m < 2
 ·rw [if_pos hlt] at hk
  rw [if_pos hlt]
  exact Ev.facts prog_ok (nuL_okB rfl) hk hf rfl rfl
 ·rw [if_neg hlt] at hk
  rw [if_neg hlt]
  exact Ev.facts prog_ok (nuL_okB rfl) hk hf rfl rfl
open Go Go.RowKit
def vP (v:V4):PV:=.agg [nI v.1,nI v.2.1,nI v.2.2.1, .str v.2.2.2]
open Go Go.RowKit
def An:List UInt8→List UInt8
 | []=>[]
 | c::l=>if c=39 then 39::39::An l else c::An l
theorem Fe (l:List UInt8):An (39::l)=39::39::An l:=rfl
theorem Ff {c:UInt8} (h:¬ c=39) (l:List UInt8):An (c::l)=c::An l:=if_neg h
theorem Ac {nu:Nat→PV} {x y r:PV} {l m:List UInt8} (h1:subD nu x = .str l) (h2:subD nu y = .str m) (hl:l.length+m.length≤9223372036854775807) (h3:subD nu r = .str (l++m)) (h4:oneB nu r=true):FactOk PG nu (.op (.bin .add ty_string) [x,y] r) :=
 Cc h1 h2 (by show (if l.length+m.length≤9223372036854775807 then some (PV.str (l++m)) else none)=_;rw [if_pos hl]) h3 h4
open Go Go.RowKit
def Ad (s:List UInt8):List UInt8:=s.dropWhile (· == 48)
def K5 (b:Bool):List Fact:=[.op (.len ty_string) [.atom 0] (.atom 1),oI .gtr (.atom 1) (nI 0) (.bool b)]
def H6 (q:Bool):List Fact:=K5 true++[.op (.index ty_string) [.atom 0,nI 0] (.atom 2), .op (.bin .eql ty_uint8) [.atom 2, .int .u8 48] (.bool q), .op (.slice ty_string true false) [.atom 0,nI 1] (.atom 3)]
noncomputable abbrev Hj (fs:List Fact):Option (Ex × St):=execN PG (fOrc noOwn fs) (callF PG (fOrc noOwn fs) 5) ((fOrc noOwn fs).loop Dm) 5 3 (loopAt PG Dm 1) ⟨[(0, .atom 0),(1, .int .u8 48)],[]⟩
theorem E4:loneB PG Dm 1=true:=by kernel_rfl
theorem Ti:runsB (Hj (K5 false)) (.exit 0) [(0, .atom 0)] []=true:=by kernel_rfl
theorem R7:runsB (Hj (H6 false)) (.exit 0) [(0, .atom 0)] []=true:=by kernel_rfl
theorem Tf:runsB (Hj (H6 true)) .normal [(0, .atom 3),(1, .int .u8 48)] []=true:=by kernel_rfl
theorem Tc:okR (.atom 1) (callF PG (fOrc noOwn [.op (.bin .eql ty_string) [.atom 0, .str []] (.bool false), .loop Dm 1 [(0, .atom 0),(1, .int .u8 48)] [] (.exit 0) [(0, .atom 1)] []]) 10 En [.atom 0, .str [48]] [])=true:=by kernel_rfl
theorem Qh:okR (.atom 0) (callF PG (fOrc noOwn [.op (.bin .eql ty_string) [.atom 0, .str []] (.bool true)]) 10 En [.atom 0, .str [48]] [])=true:=by kernel_rfl
theorem Og:∀ (s:List UInt8),RunsR PG (ntOf PG Dm) (loopAt PG Dm 1) [(0, .str s),(1, .int .u8 48)] [] (.exit 0) [(0, .str (Ad s))] []:=by
 intro s
 induction s with
 | nil =>
  refine RunsR.leave ?_ (fun h=>by cases h)
  exact RunsP.chk (nu:=nuL [.str [],nI 0]) prog_ok (nuL_okB rfl) (T:=[(0, .atom 0),(1, .int .u8 48)]) (s:=[]) (T':=[(0, .atom 0)]) (s':=[]) E4 Ti ⟨fStrLen (s:=[]) rfl rfl rfl,fCmp (c:=false) (a:=0) (b:=0) rfl rfl rfl rfl (by decide) rfl,trivial⟩ rfl rfl rfl
 | cons c s ih =>
  have hf:∀ q,(c==48)=q→FactsOk PG (nuL [.str (c::s),nI (s.length+1:Nat),nB c, .str s]) (H6 q):=fun q hq =>
   ⟨fStrLen (s:=c::s) rfl rfl rfl,fCmp (c:=true) (a:=(s.length+1:Nat)) (b:=0) rfl rfl rfl (by simp only [intP];rw [decide_eq_true (by omega)]) (by decide) rfl,B6 (s:=c::s) (n:=0) (c:=c) rfl rfl rfl rfl rfl,Bc (a:=(c.toNat:Nat)) (b:=(48:Nat)) rfl rfl (Bm (c:=c) (n:=48) (by decide) hq) rfl (by decide) rfl,
    Ey (s:=c::s) (i:=1) (w:=s) rfl rfl (by simp) rfl rfl rfl,trivial⟩
  cases hq:(c==48) with
  | false =>
   have e:Ad (c::s)=c::s:=by unfold Ad;rw [List.dropWhile_cons,hq];rfl
   rw [e]
   refine RunsR.leave ?_ (fun h=>by cases h)
   exact RunsP.chk prog_ok (nuL_okB rfl) (T:=[(0, .atom 0),(1, .int .u8 48)]) (s:=[]) (T':=[(0, .atom 0)]) (s':=[]) E4 R7 (hf false hq) rfl rfl rfl
  | true =>
   have e:Ad (c::s)=Ad s:=by unfold Ad;rw [List.dropWhile_cons,hq];rfl
   rw [e]
   exact RunsR.round (RunsP.chk prog_ok (nuL_okB rfl) (T:=[(0, .atom 0),(1, .int .u8 48)]) (s:=[]) (T':=[(0, .atom 3),(1, .int .u8 48)]) (s':=[]) E4 Tf (hf true hq) rfl rfl rfl) ih
theorem Ir (s:List UInt8):Ev PG En [.str s, .str [48]] (.str (Ad s)):=by
 cases s with
 | nil=>exact Ev.facts (nu:=nuL [.str []]) prog_ok (nuL_okB rfl) (okR_eq Qh) ⟨Cc (l:=[]) (m:=[]) rfl rfl (C4 _ _) rfl rfl,trivial⟩ rfl rfl
 | cons c s=>exact Ev.facts (nu:=nuL [.str (c::s), .str (Ad (c::s))]) (args:=[.atom 0, .str [48]]) prog_ok (nuL_okB rfl) (okR_eq Tc) ⟨Cc (l:=c::s) (m:=[]) rfl rfl (C4 _ _) rfl rfl,fLoopOk E4 (Nat.le_refl _) (Og (c::s)) rfl,trivial⟩ rfl rfl
def A9 (s:List UInt8):List UInt8:=(Ad s.reverse).reverse
def La (b:Bool):List Fact:=[.op (.len ty_string) [.atom 0] (.atom 1),oI .gtr (.atom 1) (nI 0) (.bool b)]
def Hz (q:Bool):List Fact:=La true++[oI .sub (.atom 1) (nI 1) (.atom 4), .op (.index ty_string) [.atom 0, .atom 4] (.atom 2), .op (.bin .eql ty_uint8) [.atom 2, .int .u8 48] (.bool q), .op (.slice ty_string false true) [.atom 0, .atom 4] (.atom 3)]
noncomputable abbrev Hl (fs:List Fact):Option (Ex × St):=execN PG (fOrc noOwn fs) (callF PG (fOrc noOwn fs) 5) ((fOrc noOwn fs).loop Dl) 5 3 (loopAt PG Dl 1) ⟨[(0, .atom 0),(1, .int .u8 48)],[]⟩
theorem E3:loneB PG Dl 1=true:=by kernel_rfl
theorem Sr:runsB (Hl (La false)) (.exit 0) [(0, .atom 0)] []=true:=by kernel_rfl
theorem S9:runsB (Hl (Hz false)) (.exit 0) [(0, .atom 0)] []=true:=by kernel_rfl
theorem Rx:runsB (Hl (Hz true)) .normal [(0, .atom 3),(1, .int .u8 48)] []=true:=by kernel_rfl
theorem S1:okR (.atom 1) (callF PG (fOrc noOwn [.op (.bin .eql ty_string) [.atom 0, .str []] (.bool false), .loop Dl 1 [(0, .atom 0),(1, .int .u8 48)] [] (.exit 0) [(0, .atom 1)] []]) 10 Em [.atom 0, .str [48]] [])=true:=by kernel_rfl
theorem Q3:okR (.atom 0) (callF PG (fOrc noOwn [.op (.bin .eql ty_string) [.atom 0, .str []] (.bool true)]) 10 Em [.atom 0, .str [48]] [])=true:=by kernel_rfl
theorem Ot:∀ (r:List UInt8),r.length≤9223372036854775806→RunsR PG (ntOf PG Dl) (loopAt PG Dl 1) [(0, .str r.reverse),(1, .int .u8 48)] [] (.exit 0) [(0, .str (Ad r).reverse)] []:=by
 intro r
 induction r with
 | nil =>
  intro _
  refine RunsR.leave ?_ (fun h=>by cases h)
  exact RunsP.chk (nu:=nuL [.str [],nI 0]) prog_ok (nuL_okB rfl) (T:=[(0, .atom 0),(1, .int .u8 48)]) (s:=[]) (T':=[(0, .atom 0)]) (s':=[]) E3 Sr ⟨fStrLen (s:=[]) rfl rfl rfl,fCmp (c:=false) (a:=0) (b:=0) rfl rfl rfl rfl (by decide) rfl,trivial⟩ rfl rfl rfl
 | cons c r ih =>
  intro hl
  have hl':r.length+1≤9223372036854775806:=by simpa using hl
  have el:(c::r).reverse=r.reverse++[c]:=by simp
  have e1:IntKind.i64.wrap (((r.length+1:Nat):Int) - 1)=(r.length:Int):=by rw [w6_id (by omega) (by omega)];omega
  have hf:∀ q,(c==48)=q→FactsOk PG (nuL [.str (r.reverse++[c]),nI (r.length+1:Nat),nB c, .str r.reverse,nI r.length]) (Hz q):=fun q hq =>
   ⟨fStrLen (s:=r.reverse++[c]) rfl (by simp [subD,nuL]) rfl,fCmp (c:=true) (a:=(r.length+1:Nat)) (b:=0) rfl rfl rfl (by simp only [intP];rw [decide_eq_true (by omega)]) (by decide) rfl,fInt (a:=(r.length+1:Nat)) (b:=1) rfl rfl rfl (by simp only [intP];rw [e1]) (by decide) rfl,
    B6 (s:=r.reverse++[c]) (n:=r.length) (c:=c) rfl rfl (by rw [List.getElem?_append_right (by simp)];simp) rfl rfl,Bc (a:=(c.toNat:Nat)) (b:=(48:Nat)) rfl rfl (Bm (c:=c) (n:=48) (by decide) hq) rfl (by decide) rfl,
    D9 (s:=r.reverse++[c]) (j:=r.length) (w:=r.reverse) rfl rfl (by simp) (by simp) rfl rfl,trivial⟩
  rw [el]
  cases hq:(c==48) with
  | false =>
   have e:(Ad (c::r)).reverse=r.reverse++[c]:=by unfold Ad;rw [List.dropWhile_cons,hq];exact el
   rw [e]
   refine RunsR.leave ?_ (fun h=>by cases h)
   exact RunsP.chk prog_ok (nuL_okB rfl) (T:=[(0, .atom 0),(1, .int .u8 48)]) (s:=[]) (T':=[(0, .atom 0)]) (s':=[]) E3 S9 (hf false hq) rfl rfl rfl
  | true =>
   have e:Ad (c::r)=Ad r:=by unfold Ad;rw [List.dropWhile_cons,hq];rfl
   rw [e]
   exact RunsR.round (RunsP.chk prog_ok (nuL_okB rfl) (T:=[(0, .atom 0),(1, .int .u8 48)]) (s:=[]) (T':=[(0, .atom 3),(1, .int .u8 48)]) (s':=[]) E3 Rx (hf true hq) rfl rfl rfl) (ih (by omega))
theorem Lu (s:List UInt8) (hs:s.length≤9223372036854775806):Ev PG Em [.str s, .str [48]] (.str (A9 s)):=by
 have hl:=Ot s.reverse (by simpa using hs)
 rw [List.reverse_reverse] at hl
 cases s with
 | nil=>exact Ev.facts (nu:=nuL [.str []]) prog_ok (nuL_okB rfl) (okR_eq Q3) ⟨Cc (l:=[]) (m:=[]) rfl rfl (C4 _ _) rfl rfl,trivial⟩ rfl rfl
 | cons c s=>exact Ev.facts (nu:=nuL [.str (c::s), .str (A9 (c::s))]) (args:=[.atom 0, .str [48]]) prog_ok (nuL_okB rfl) (okR_eq S1) ⟨Cc (l:=c::s) (m:=[]) rfl rfl (C4 _ _) rfl rfl,fLoopOk E3 (Nat.le_refl _) hl rfl,trivial⟩ rfl rfl
open Go Go.RowKit
def Dz (e:PV) (s:List Res):Option (PV × List Res)→Bool
 | some (r,t)=>PV.same r e&&sameS t s
 | none=>false
theorem E6 {e:PV} {s:List Res} {o:Option (PV × List Res)} (h:Dz e s o=true):o=some (e,s):=by
 cases o with
 | none=>cases h
 | some q =>
  simp only [Dz,Bool.and_eq_true] at h
  rw [← same_eq _ _ h.1,← sameS_eq h.2]
def Uz (s k a w v0 v1 v2 v3 e tt dp at_ er:PV):List Res:=[.box [s,k,a,w,v0,v1,v2,v3,e,tt,dp,at_,er]]
def D6 (s k a w v0 v1 v2 v3 tt dp:PV):List Res:=Uz s k a w v0 v1 v2 v3 (nI 0) tt dp (nI 0) (nI 0)
def Bq (s:List UInt8) (x:Sg) (tt dp:Nat):List Res:=D6 (.str s) (nI x.k) (nI x.a) (.str x.w) (nI x.v.1) (nI x.v.2.1) (nI x.v.2.2.1) (.str x.v.2.2.2) (nI tt) (nI dp)
def okA (j:Nat):List Res:=D6 (.atom 0) (.atom (j+0)) (.atom (j+1)) (.atom (j+2)) (.atom (j+3)) (.atom (j+4)) (.atom (j+5)) (.atom (j+6)) (.atom (j+7)) (.atom (j+8))
def okV (x:Sg) (tt dp:Nat):List PV:=[nI x.k,nI x.a, .str x.w,nI x.v.1,nI x.v.2.1,nI x.v.2.2.1, .str x.v.2.2.2,nI tt,nI dp]
def Be (x:Sg) (m:List UInt8):Bool:=(x.k==1||x.k==5)&&x.w==m
def Us (b1 b5 bw:Bool):List Fact:=[oI .eql (.atom 1) (nI 1) (.bool b1),oI .eql (.atom 1) (nI 5) (.bool b5), .op (.bin .eql ty_string) [.atom 3, .atom 10] (.bool bw)]
theorem S7:bl (fun b1=>bl fun b5=>bl fun bw=>Dz (.bool ((b1||b5)&&bw)) (okA 1) (callF PG (fOrc noOwn (Us b1 b5 bw)) 20 Gg [.box 0 0, .atom 10] (okA 1)))=true:=by kernel_rfl
theorem Da (a b:Int):intP .eql .i64 a b=some (.bool (a==b)):=rfl
theorem Ql (s:List UInt8) (x:Sg) (tt dp:Nat) (m:List UInt8):EvS PG Gg [.box 0 0, .str m] (Bq s x tt dp) (.bool (Be x m)) (Bq s x tt dp) :=
 EvS.facts (nu:=nuL (.str s::(okV x tt dp++[PV.str m]))) (args:=[.box 0 0, .atom 10]) (s:=okA 1) (s':=okA 1) (r:=.bool ((x.k==1||x.k==5)&&x.w==m)) prog_ok (nuL_okB rfl) (E6 (bl_all (bl_all (bl_all S7 (x.k==1)) (x.k==5)) (x.w==m)))
  ⟨fCmp rfl rfl rfl (Da _ _) (by decide) rfl,fCmp rfl rfl rfl (Da _ _) (by decide) rfl,Cc rfl rfl (C4 _ _) rfl rfl,trivial⟩ rfl rfl rfl
theorem Py:Dz (.tup []) (D6 (.atom 0) (.atom 10) (.atom 11) (.atom 12) (.atom 13) (.atom 14) (.atom 15) (.atom 16) (.atom 17) (.atom 9)) (callF PG (fOrc noOwn [.prim Bz [.atom 0, .atom 8] (.tup [Cf (.atom 10) (.atom 11) (.atom 12) (.atom 13) (.atom 14) (.atom 15) (.atom 16) (nI 0), .atom 17]),oI .eql (.atom 10) (nI 6) (.bool false)]) 20 Eo [.box 0 0] (okA 1))=true:=by kernel_rfl
structure Rd (s:List UInt8) (i:Nat) (x:Sg) (j:Nat):Prop where
 ev:Ev PG Bz [.str s,nI i] (.tup [x.pv,nI j])
 e:x.e=0
 k:x.k≠6
theorem Ha {s:List UInt8} (x:Sg) {tt:Nat} (dp:Nat) {y:Sg} {tu:Nat} (h:Rd s tt y tu):EvS PG Eo [.box 0 0] (Bq s x tt dp) (.tup []) (Bq s y tu dp):=by
 obtain ⟨he,h0,hk⟩:=h
 obtain ⟨k,a,w,v,e⟩:=y
 dsimp only at h0 hk
 subst h0
 exact EvS.facts (nu:=nuL (.str s::(okV x tt dp++okV ⟨k,a,w,v,0⟩ tu dp))) (args:=[.box 0 0]) prog_ok (nuL_okB rfl) (E6 Py) ⟨fprim he rfl rfl rfl,fCmp (c:=false) rfl rfl rfl (by rw [Da,beq_eq_false_iff_ne.2 hk]) (by decide) rfl,trivial⟩ rfl rfl rfl
open Go Go.RowKit
theorem Dy {nu:Nat→PV} {g:FuncId} {args:List PV} {s s':List Res} {r:PV} {a:List PV} {b d:List Res} {c:PV} (h:EvS PG g a b c d) (h1:args.map (subD nu)=a) (h2:s.map (subRes nu)=b) (h3:subD nu r=c) (h4:s'.map (subRes nu)=d) (h5:(oneB nu r&&s'.all (fnRes nu))=true):FactOk PG nu (.st g args s r s') :=
 ⟨by rw [h1,h2,h3,h4];exact h,h5⟩
structure E7 where
 k:PV
 nm:PV
 v0:PV
 v1:PV
 v2:PV
 v3:PV
 l:PV
def E7.L (r:E7):List PV:=[r.k,r.nm,r.v0,r.v1,r.v2,r.v3,r.l]
def E7.pv (r:E7):PV:=.agg r.L
def E7.ok (r:E7):Bool:=r.L.all fun p=>p.clean&&p.pure
def exA (k nm v0 v1 v2 v3 l:PV):PV:=.agg [k,nm,v0,v1,v2,v3,l]
def eA (j:Nat):PV:=exA (.atom (j+0)) (.atom (j+1)) (.atom (j+2)) (.atom (j+3)) (.atom (j+4)) (.atom (j+5)) (.atom (j+6))
def E7.zero:E7:=⟨nI 0, .str [],nI 0,nI 0,nI 0, .str [], .nilslice⟩
def E7.un (k:Int) (r:E7):E7:=⟨nI k, .str [],nI 0,nI 0,nI 0, .str [], .slice 7 [r.pv]⟩
def E7.col (w:List UInt8):E7:=⟨nI 2, .str w,nI 0,nI 0,nI 0, .str [], .nilslice⟩
theorem E7.pure {r:E7} (h:r.ok=true):r.pv.pure=true:=by
 simp only [E7.ok,E7.L,List.all_cons,List.all_nil,Bool.and_eq_true,Bool.and_true] at h
 simp only [E7.pv,E7.L,PV.pure,PV.pureL,h,Bool.and_self]
theorem E7.un_ok {k:Int} {r:E7} (h:r.ok=true):(E7.un k r).ok=true:=by
 have:=E7.pure h
 simp only [E7.un,E7.ok,E7.L,List.all_cons,List.all_nil,PV.clean,PV.pure,PV.pureL,this,Bool.and_self]
abbrev kw (s:String):List UInt8:=bs s
abbrev Ej (st:List Res) (m:String) (b:Bool):Fact:=.st Gg [.box 0 0, .str (kw m)] st (.bool b) st
theorem F4 {nu:Nat→PV} {st:List Res} {m:String} {b:Bool} {s:List UInt8} {x:Sg} {tt dp:Nat} (h1:st.map (subRes nu)=Bq s x tt dp) (h:Be x (kw m)=b) (h2:st.all (fnRes nu)=true):FactOk PG nu (Ej st m b):=by
 refine Dy (Ql s x tt dp (kw m)) rfl h1 (by rw [h];rfl) h1 ?_
 rw [h2];rfl
theorem Qp (a b:Int):intP .neq .i64 a b=some (.bool (a != b)):=rfl
open Go Go.RowKit
def okD (j d:Nat):List Res:=D6 (.atom 0) (.atom (j+0)) (.atom (j+1)) (.atom (j+2)) (.atom (j+3)) (.atom (j+4)) (.atom (j+5)) (.atom (j+6)) (.atom (j+7)) (.atom d)
abbrev Hm (a b:List Res):Fact:=.st Eo [.box 0 0] a (.tup []) b
def sv (x:Sg) (tt:Nat):List PV:=[nI x.k,nI x.a, .str x.w,nI x.v.1,nI x.v.2.1,nI x.v.2.2.1, .str x.v.2.2.2,nI tt]
def Any (s:List UInt8) (x:Sg) (tt dp:Nat) (r:E7) (z:Sg) (tz:Nat):Prop:=EvS PG Gf [.box 0 0] (Bq s x tt dp) r.pv (Bq s z tz dp)∧r.ok=true
section
variable {s:List UInt8} {x y z q:Sg} {tt tu tz tq dp:Nat} {r:E7}
def stops:List String:=["*", "+", "-", "=", "<>", "<", "<=", "is", "and", "or"]
end
open Go Go.RowKit
def C5 (p:UInt8→Bool):List UInt8→Bool
 | []=>true
 | c::_=>!p c
theorem Ic {p:UInt8→Bool}:∀ {g t:List UInt8},g.all p=true→C5 p t=true→(g++t).takeWhile p=g
 | [],[],_,_=>rfl
 | [],c::t,_,h=>by
  simp only [C5,Bool.not_eq_true'] at h
  simp [h]
 | c::g,t,hg,h=>by
  simp only [List.all_cons,Bool.and_eq_true] at hg
  simp only [List.cons_append,List.takeWhile_cons,hg.1,if_true]
  rw [Ic hg.2 h]
theorem Gy {p:UInt8→Bool} {s:List UInt8} {i:Nat} {g t:List UInt8} (h:s.drop i=g++t) (hg:g.all p=true) (ht:C5 p t=true):Ai p s i=i+g.length:=by
 unfold Ai
 rw [h,Ic hg ht]
theorem Do {s:List UInt8} {i:Nat} {g t:List UInt8} (h:s.drop i=g++t):s.drop (i+g.length)=t:=by
 rw [← List.drop_drop,h];simp
theorem Ec {s:List UInt8} {i:Nat} {c:UInt8} {t:List UInt8} (h:s.drop i=c::t):i < s.length∧s[i]? = some c:=by
 have hl:i < s.length:=by
  rcases Nat.lt_or_ge i s.length with hl|hl
  ·exact hl
  ·rw [List.drop_eq_nil_of_le hl] at h;cases h
 refine ⟨hl,?_⟩
 rw [List.drop_eq_getElem_cons hl] at h
 cases h
 exact List.getElem?_eq_getElem hl
def O5 (w:List UInt8) (a:Nat):Sg:=⟨if Du.contains w then 1 else 2,a,w,v0,0⟩
def Hg (m a:Nat):Sg:=⟨5,a,As m,v0,0⟩
section
variable {s:List UInt8} {i:Nat} {g:List UInt8}
theorem Ov (hs:s.length≤9223372036854775805) (hi:i≤s.length) (m:Nat) (hm11:m < 11) {rest:List UInt8} (h:s.drop i=g++(As m++rest)) (hg:g.all Ae=true)
  (hm:∀ j,j≤m→(As j).isPrefixOf (As m++rest)=Nat.beq j m):Rd s i (Hg m (i+g.length)) (i+g.length+(if m < 2 then 2 else 1)):=by
 have hk:∀ m,m < 11→∃ c t,As m=c::t∧Ae c=false∧A5 c=false∧isDigit c=false∧c≠39:=by
  intro m hm
  have:((List.range 11).all fun m=>match As m with|c::_=>!Ae c&&(!A5 c&&(!isDigit c&&c != 39)) | []=>false)=true:=by decide
  have:=List.all_eq_true.1 this m (by rw [List.mem_range];exact hm)
  cases hq:As m with
  | nil=>rw [hq] at this;cases this
  | cons c t =>
   rw [hq] at this
   simp only [Bool.and_eq_true,Bool.not_eq_true',bne_iff_ne] at this
   exact ⟨c,t,rfl,this.1,this.2.1,this.2.2.1,this.2.2.2⟩
 obtain ⟨c,t,hc,h1,h2,h3,h4⟩:=hk m hm11
 have hp:=Gy h hg (by rw [hc];show (!Ae c)=true;rw [h1];rfl)
 have hd:=Do h
 obtain ⟨hil,hci'⟩:=Ec (show s.drop (i+g.length)=c::(t++rest) by rw [hd,hc];rfl)
 have:=Nj hs i hi (c:=c) (by rw [hp];exact hci') h2 h3 h4 m hm11 (fun j hj=>by rw [hp,hd];exact hm j hj)
 rw [hp] at this
 exact ⟨this,rfl,(by show (5:Int)≠6;decide)⟩
theorem N8 (hs:s.length≤9223372036854775805) (hi:i≤s.length) (m:Nat) (hm11:m < 11) (hm7:m≠7) {rest:List UInt8} (h:s.drop i=g++(As m++rest)) (hg:g.all Ae=true):Rd s i (Hg m (i+g.length)) (i+g.length+(if m < 2 then 2 else 1)):=by
 refine Ov hs hi m hm11 h hg (fun j hj=>?_)
 have hj11:j < 11:=by omega
 clear h
 match m,j,hm11,hm7,hj with
 | 0,0,_,_,_=>rfl
 | 1,0,_,_,_|1,1,_,_,_=>rfl
 | 2,0,_,_,_|2,1,_,_,_|2,2,_,_,_=>rfl
 | 3,0,_,_,_|3,1,_,_,_|3,2,_,_,_|3,3,_,_,_=>rfl
 | 4,0,_,_,_|4,1,_,_,_|4,2,_,_,_|4,3,_,_,_|4,4,_,_,_=>rfl
 | 5,0,_,_,_|5,1,_,_,_|5,2,_,_,_|5,3,_,_,_|5,4,_,_,_|5,5,_,_,_=>rfl
 | 6,0,_,_,_|6,1,_,_,_|6,2,_,_,_|6,3,_,_,_|6,4,_,_,_|6,5,_,_,_|6,6,_,_,_=>rfl
 | 8,0,_,_,_|8,1,_,_,_|8,2,_,_,_|8,3,_,_,_|8,4,_,_,_|8,5,_,_,_|8,6,_,_,_|8,7,_,_,_|8,8,_,_,_=>rfl
 | 9,0,_,_,_|9,1,_,_,_|9,2,_,_,_|9,3,_,_,_|9,4,_,_,_|9,5,_,_,_|9,6,_,_,_|9,7,_,_,_|9,8,_,_,_|9,9,_,_,_=>rfl
 | 10,0,_,_,_|10,1,_,_,_|10,2,_,_,_|10,3,_,_,_|10,4,_,_,_|10,5,_,_,_|10,6,_,_,_|10,7,_,_,_|10,8,_,_,_|10,9,_,_,_|10,10,_,_,_=>rfl
end
open Go Go.RowKit
def H2:List Bool→List UInt8
 | []=>[]
 | true::l=>40::H2 l
 | false::l=>45::32::H2 l
def cnt (l:List Bool):Nat:=l.count true
def Lies (s:List UInt8) (i:Nat) (g:List UInt8) (l:List Bool) (m:Nat):Prop:=i≤s.length∧g.all Ae=true∧s.drop i=g++(H2 l++(120::List.replicate (cnt l+m) 41))
section
variable {s:List UInt8} (hs:s.length≤9223372036854775805)
include hs
omit hs in
omit hs in
end
open Go Go.RowKit
theorem w3_kt:callF PG (fOrc (fun _ _=>false) [.op (.bin .rem ty_int) [.atom 0, .atom 1] (.atom 2), .op (.bin .lss ty_int) [.atom 2, .int .i64 0] (.bool true), .op (.bin .add ty_int) [.atom 2, .atom 1] (.atom 3)]) 5 f_l3_within [.atom 0, .atom 1] []=some (.atom 3,[]):=by kernel_rfl
theorem w3_kf:callF PG (fOrc (fun _ _=>false) [.op (.bin .rem ty_int) [.atom 0, .atom 1] (.atom 2), .op (.bin .lss ty_int) [.atom 2, .int .i64 0] (.bool false)]) 5 f_l3_within [.atom 0, .atom 1] []=some (.atom 2,[]):=by kernel_rfl
theorem within3_ev (a n:Int) (hn:n≠0):Ev PG f_l3_within [.int .i64 a, .int .i64 n] (.int .i64 (wthn a n)):=by
 by_cases hc:a.tmod n < 0
 ·have e:wthn a n=IntKind.i64.wrap (a.tmod n+n):=if_pos hc
  rw [e]
  exact Ev.facts prog_ok (nuL_okB (l:=[.int .i64 a, .int .i64 n, .int .i64 (a.tmod n), .int .i64 (IntKind.i64.wrap (a.tmod n+n))]) rfl)
   w3_kt ⟨fInt rfl rfl rfl (by simp [intP,hn]) (by decide) rfl,fCmp rfl rfl rfl (by simp [intP,hc]) (by decide) rfl,fInt rfl rfl rfl rfl (by decide) rfl,trivial⟩ rfl rfl
 ·have e:wthn a n=a.tmod n:=if_neg hc
  rw [e]
  exact Ev.facts prog_ok (nuL_okB (l:=[.int .i64 a, .int .i64 n, .int .i64 (a.tmod n)]) rfl)
   w3_kf ⟨fInt rfl rfl rfl (by simp [intP,hn]) (by decide) rfl,fCmp rfl rfl rfl (by simp [intP,hc]) (by decide) rfl,trivial⟩ rfl rfl
def knF:List Fact:=kF++[Ht (bs "5"),Hh (-5,[45,53])]
theorem Ox:okR (.bool true) (callF PG (fOrc noOwn knF) 70 Gn [] [])=true:=by kernel_rfl
theorem Qk:([45,53]:List UInt8)=Lib.itoa (-5):=by kernel_rfl
theorem Nv:Ev PG Gn [] (.bool true) :=
 Ev.facts (nu:=nuL []) (args:=[]) prog_ok (nuL_okB rfl) (okR_eq Ox) ⟨fprim Jq rfl rfl rfl,fprim G1 rfl rfl rfl,fprim (He (bs "5") [46] (by decide)) rfl rfl rfl,fprim (E5 (-5) (by decide)) rfl (congrArg PV.str Qk) rfl,trivial⟩ rfl rfl
open Go Go.RowKit
def Au:List PV:=[.str [], .nilslice,nI 0, .nilslice,nI 0, .str [],nI 0,nI 0,nI 0, .str [], .nilslice, .nilslice]
def Dv (k:PV) (T:List PV) (nm col dst row:PV) (e w:List PV):PV:=.agg (k::(T++([nm,col,dst,row]++(e++w))))
def Ux (j:Nat):List PV:=[.atom (j+0), .atom (j+1), .atom (j+2), .atom (j+3), .atom (j+4), .atom (j+5), .atom (j+6)]
open Go Go.RowKit
open Go Go.RowKit
open Go Go.RowKit
theorem wthn_nat (n:Int) (m:Nat) (h0:0 < m) (h1:m≤9223372036854775807):∃ k:Nat,wthn n m=k∧k < m:=by
 unfold wthn
 have h2:=Int.tmod_lt_of_pos n (show (0:Int) < m by omega)
 have h3 : -(m:Int) < n.tmod m:=by
  have:=Int.lt_tmod_of_pos n (show (0:Int) < m by omega)
  omega
 split
 ·rw [w6_id (by omega) (by omega)]
  exact ⟨(n.tmod m+m).toNat,by omega,by omega⟩
 ·exact ⟨(n.tmod m).toNat,by omega,by omega⟩
open Go Go.RowKit
def Aj (l:List UInt8) (n:Int):Int:=l.foldl (fun n c=>10*n - ((c.toNat:Int) - 48)) n
theorem G7:∀ (l:List UInt8) {n:Int},l.all isDigit=true→n≤0→Aj l n≤n
 | [],n,_,_=>Int.le_refl n
 | c::l,n,h,hn=>by
  simp only [List.all_cons,Bool.and_eq_true,isDigit,decide_eq_true_eq] at h
  have:=G7 l (n:=10*n - ((c.toNat:Int) - 48)) (by simpa [isDigit] using h.2) (by omega)
  show Aj l (10*n - ((c.toNat:Int) - 48))≤n
  omega
def H5:List (Nat × PV):=[(1, .atom 0),(4, .box 0 0),(7, .atom 1),(8, .atom 2),(9, .atom 3),(10, .atom 4),(32, .atom 5),(33, .atom 6)]
def Bf:List Res:=[.box [nI 0,nI 0,nI 0, .str []]]
def K6 (b:Bool):List Fact:=[oI .lss (.atom 6) (.atom 5) (.bool b)]
def U6:List Fact:=[.op (.index ty_string) [.atom 3, .atom 6] (.atom 7), .op (.bin .sub ty_uint8) [.atom 7, .int .u8 48] (.atom 8), .op (.conv ty_uint8 ty_int) [.atom 8] (.atom 9),oI .add (nI (-9223372036854775808)) (.atom 9) (.atom 10),oI .quo (.atom 10) (nI 10) (.atom 11),oI .lss (.atom 4) (.atom 11) (.bool false),
 oI .mul (nI 10) (.atom 4) (.atom 12),oI .sub (.atom 12) (.atom 9) (.atom 13),oI .add (.atom 6) (nI 1) (.atom 14)]
noncomputable abbrev J9 (fs:List Fact):Option (Ex × St):=execN PG (fOrc noOwn fs) (callF PG (fOrc noOwn fs) 5) ((fOrc noOwn fs).loop Ax) 5 3 (loopAt PG Ax 9) ⟨H5,Bf⟩
theorem E2:loneB PG Ax 9=true:=by kernel_rfl
theorem Tm:runsB (J9 (K6 false)) (.exit 0) [(1, .atom 0),(4, .box 0 0),(7, .atom 1),(8, .atom 2),(10, .atom 4)] Bf=true:=by kernel_rfl
theorem Tn:runsB (J9 (K6 true++U6)) .normal [(1, .atom 0),(4, .box 0 0),(7, .atom 1),(8, .atom 2),(9, .atom 3),(10, .atom 13),(32, .atom 5),(33, .atom 14)] Bf=true:=by kernel_rfl
theorem Oz {nu:Nat→PV} {x r:PV} {n:Int} (h1:subD nu x = .int .u8 n) (h2:subD nu r=nI n) (hn : -9223372036854775808≤n∧n≤9223372036854775807) (h3:oneB nu r=true):FactOk PG nu (.op (.conv ty_uint8 ty_int) [x] r):=by
 refine ⟨?_,h3⟩
 show convP PG ty_uint8 ty_int (subD nu x)=some (subD nu r)
 rw [h1,h2]
 have e1:PG.underlying ty_uint8=some (.int .u8):=by kernel_rfl
 have e2:PG.underlying ty_int=some (.int .i64):=by kernel_rfl
 unfold convP
 rw [e1,e2]
 show some (PV.int .i64 (IntKind.i64.wrap n))=_
 rw [w6_id hn.1 hn.2]
def Kq (b q:Bool) (p all:List UInt8) (n:Int) (i:Nat) (c:UInt8):List PV :=
 [.bool b, .str p, .bool q, .str all,nI n,nI all.length,nI i,nB c, .int .u8 ((c.toNat:Int) - 48),nI ((c.toNat:Int) - 48),nI (-9223372036854775808+((c.toNat:Int) - 48)),nI ((-9223372036854775808+((c.toNat:Int) - 48)).tdiv 10),nI (10*n),nI (10*n - ((c.toNat:Int) - 48)),nI (i+1:Nat)]
set_option maxRecDepth 20000 in
theorem Oq (b q:Bool) (p:List UInt8) {all:List UInt8} (hs:all.length≤19):∀ (l:List UInt8) (n:Int) (i:Nat),all.drop i=l→i≤all.length→l.all isDigit=true→n≤0→-9223372036854775808≤Aj l n →
  RunsR PG (ntOf PG Ax) (loopAt PG Ax 9) [(1, .bool b),(4, .box 0 0),(7, .str p),(8, .bool q),(9, .str all),(10,nI n),(32,nI all.length),(33,nI i)] Bf (.exit 0) [(1, .bool b),(4, .box 0 0),(7, .str p),(8, .bool q),(10,nI (Aj l n))] Bf:=by
 intro l
 induction l with
 | nil =>
  intro n i hi h1 _ _ _
  have hlen:all.length≤i:=by
   have:=congrArg List.length hi
   simp at this;omega
  refine RunsR.leave ?_ (fun h=>by cases h)
  exact RunsP.chk (nu:=nuL (Kq b q p all n i 0)) prog_ok (nuL_okB rfl) (T:=H5) (s:=Bf) (T':=[(1, .atom 0),(4, .box 0 0),(7, .atom 1),(8, .atom 2),(10, .atom 4)]) (s':=Bf) E2 Tm
   ⟨fCmp (c:=false) (a:=i) (b:=all.length) rfl rfl rfl (by simp only [intP];rw [decide_eq_false (by omega)]) (by decide) rfl,trivial⟩ rfl rfl rfl
 | cons c l ih =>
  intro n i hi h1 hd hn hb
  have hx:all[i]? = some c:=by
   have:=congrArg (fun z=>z[0]?) hi
   simpa using this
  have hil:i < all.length:=(List.getElem?_eq_some_iff.1 hx).1
  have hl:all.drop (i+1)=l:=by
   have:=congrArg List.tail hi
   simpa using this
  simp only [List.all_cons,Bool.and_eq_true] at hd
  have hdc:=hd.1
  simp only [isDigit,Bool.and_eq_true,decide_eq_true_eq] at hdc
  have hb' : -9223372036854775808≤Aj l (10*n - ((c.toNat:Int) - 48)):=hb
  have hle:=G7 l hd.2 (n:=10*n - ((c.toNat:Int) - 48)) (by omega)
  have hr:=ih (10*n - ((c.toNat:Int) - 48)) (i+1) hl (by omega) hd.2 (by omega) hb'
  refine RunsR.round ?_ hr
  have ht:(-9223372036854775808+((c.toNat:Int) - 48)).tdiv 10 = -((9223372036854775808 - ((c.toNat:Int) - 48)) / 10):=by
   rw [show (-9223372036854775808+((c.toNat:Int) - 48)) = -(9223372036854775808 - ((c.toNat:Int) - 48)) by omega,Int.neg_tdiv,Int.tdiv_eq_ediv_of_nonneg (by omega)]
  have e1:IntKind.i64.wrap (-9223372036854775808+((c.toNat:Int) - 48)) = -9223372036854775808+((c.toNat:Int) - 48):=w6_id (by omega) (by omega)
  have e2:IntKind.i64.wrap ((-9223372036854775808+((c.toNat:Int) - 48)).tdiv 10)=(-9223372036854775808+((c.toNat:Int) - 48)).tdiv 10:=w6_id (by rw [ht];omega) (by rw [ht];omega)
  have e3:IntKind.i64.wrap (10*n)=10*n:=w6_id (by omega) (by omega)
  have e4:IntKind.i64.wrap (10*n - ((c.toNat:Int) - 48))=10*n - ((c.toNat:Int) - 48):=w6_id (by omega) (by omega)
  have e5:IntKind.i64.wrap ((i:Int)+1)=((i+1:Nat):Int):=by rw [w6_id (by omega) (by omega)];omega
  have e6:IntKind.u8.wrap ((c.toNat:Int) - 48)=(c.toNat:Int) - 48:=Go.IntWalk.u8_in _ ⟨by omega,by omega⟩
  have hlt:¬ n < (-9223372036854775808+((c.toNat:Int) - 48)).tdiv 10:=by rw [ht];omega
  exact RunsP.chk (nu:=nuL (Kq b q p all n i c)) prog_ok (nuL_okB rfl) (T:=H5) (s:=Bf) (T':=[(1, .atom 0),(4, .box 0 0),(7, .atom 1),(8, .atom 2),(9, .atom 3),(10, .atom 13),(32, .atom 5),(33, .atom 14)]) (s':=Bf) E2 Tn
   (FactsOk.append ⟨fCmp (c:=true) (a:=i) (b:=all.length) rfl rfl rfl (by simp only [intP];rw [decide_eq_true (by omega)]) (by decide) rfl,trivial⟩
   ⟨B6 rfl rfl hx rfl rfl,Bc (a:=c.toNat) (b:=48) (p:=.int .u8 ((c.toNat:Int) - 48)) rfl rfl (by simp only [intP];rw [e6]) rfl (by decide) rfl,Oz rfl rfl (by omega) rfl,fInt (a:=-9223372036854775808) (b:=(c.toNat:Int) - 48) rfl rfl rfl (by simp only [intP];rw [e1]) (by decide) rfl,
    fInt (a:=-9223372036854775808+((c.toNat:Int) - 48)) (b:=10) rfl rfl rfl (by simp [intP];rw [e2]) (by decide) rfl,fCmp (c:=false) rfl rfl rfl (by simp only [intP];rw [decide_eq_false hlt]) (by decide) rfl,
    fInt (a:=10) (b:=n) rfl rfl rfl (by simp only [intP];rw [e3]) (by decide) rfl,fInt (a:=10*n) (b:=(c.toNat:Int) - 48) rfl rfl rfl (by simp only [intP];rw [e4]) (by decide) rfl,fInt (a:=i) (b:=1) rfl rfl rfl (by simp only [intP];rw [e5]) (by decide) rfl,trivial⟩) rfl rfl rfl
open Go Go.RowKit
theorem Jg:∀ {w:List UInt8},w.all isDigit=true→Lib.index w [46] = -1
 | [],_=>rfl
 | c::l,h=>by
  simp only [List.all_cons,Bool.and_eq_true] at h
  have hc:([46]:List UInt8).isPrefixOf (c::l)=false:=by
   have h1:=h.1
   simp only [isDigit,Bool.and_eq_true,decide_eq_true_eq] at h1
   simp only [List.isPrefixOf,Bool.and_true,beq_eq_false_iff_ne]
   intro e;subst e;simp at h1
  unfold Lib.index
  rw [hc,Jg h.2]
  rfl
theorem O8 {w:List UInt8} (h:w.all isDigit=true):Lib.cut w [46]=(w,[],false):=by
 unfold Lib.cut
 rw [Jg h];rfl
theorem Jh:∀ (l:List UInt8) {n:Int},l.all isDigit=true→Aj l n≤10 ^ l.length*n
 | [],n,_=>by simp [Aj]
 | c::l,n,h=>by
  simp only [List.all_cons,Bool.and_eq_true] at h
  have h1:=h.1
  simp only [isDigit,Bool.and_eq_true,decide_eq_true_eq] at h1
  have:=Jh l (n:=10*n - ((c.toNat:Int) - 48)) h.2
  have h3:(10:Int) ^ l.length*(10*n - ((c.toNat:Int) - 48))≤10 ^ l.length*(10*n):=Int.mul_le_mul_of_nonneg_left (by omega) (Int.pow_nonneg (by decide))
  have h4:(10:Int) ^ (l.length+1)*n=10 ^ l.length*(10*n):=by rw [Int.pow_succ,Int.mul_assoc]
  show Aj l (10*n - ((c.toNat:Int) - 48))≤10 ^ (l.length+1)*n
  rw [h4];omega
theorem Gs:∀ {l:List UInt8} {p:UInt8→Bool},l.all p=true→(Ad l).all p=true
 | [],_,_=>rfl
 | c::l,p,h=>by
  simp only [List.all_cons,Bool.and_eq_true] at h
  unfold Ad
  rw [List.dropWhile_cons]
  split
  ·exact Gs h.2
  ·simp [h.1,h.2]
theorem I5:∀ {l:List UInt8},l.all isDigit=true→-9223372036854775808≤Aj (Ad l) 0→(Ad l).length≤19
 | [],_,_=>by simp [Ad]
 | c::l,h,hb=>by
  simp only [List.all_cons,Bool.and_eq_true] at h
  unfold Ad at hb ⊢
  rw [List.dropWhile_cons] at hb ⊢
  split
  ·rename_i hc
   rw [if_pos hc] at hb
   exact I5 h.2 hb
  ·rename_i hc
   rw [if_neg hc] at hb
   have h1:=h.1
   simp only [isDigit,Bool.and_eq_true,decide_eq_true_eq] at h1
   have h48:c.toNat≠48:=fun e=>hc (by rw [beq_iff_eq,← UInt8.toNat_inj];exact e)
   have hb' : -9223372036854775808≤Aj l (10*0 - ((c.toNat:Int) - 48)):=hb
   have h2:=Jh l (n:=10*0 - ((c.toNat:Int) - 48)) h.2
   have h3:(10:Int) ^ l.length*(10*0 - ((c.toNat:Int) - 48))≤10 ^ l.length*(-1):=Int.mul_le_mul_of_nonneg_left (by omega) (Int.pow_nonneg (by decide))
   rcases Nat.lt_or_ge l.length 19 with hl|hl
   ·rw [List.length_cons];omega
   ·have h4:(10:Int) ^ 19≤10 ^ l.length:=by exact_mod_cast Nat.pow_le_pow_right (by decide) hl
    have h5:(10:Int) ^ 19=10000000000000000000:=by decide
    omega
open Go Go.RowKit
theorem Pm (a b:Int):intP .eql .i64 a b=some (.bool (a==b)):=rfl
def H8 (q:Bool):PV:=match q with|true=>.atom 3|false=>.atom 2
def Uk (b:Bool):PV:=match b with|true=>.atom 7|false=>.atom 8
def Uy (b q:Bool):Fact:=.loop Ax 9 [(1, .bool b),(4, .box 0 0),(7,H8 q),(8, .bool q),(9, .atom 5),(10,nI 0),(32, .atom 6),(33,nI 0)] Bf (.exit 0) [(1, .bool b),(4, .box 0 0),(7,H8 q),(8, .bool q),(10, .atom 7)] Bf
def Lh (b q:Bool):List Fact:=[.prim Gh [.atom 0, .str [46]] (.tup [.atom 1, .atom 2, .bool q]), .prim Em [.atom 2, .str [48]] (.atom 3), .op (.bin .add ty_string) [.atom 1,H8 q] (.atom 4), .prim En [.atom 4, .str [48]] (.atom 5),
 .op (.len ty_string) [.atom 5] (.atom 6),oI .gtr (.atom 6) (nI 19) (.bool false),Uy b q]
def K9:Bool→List Fact
 | true=>[]
 | false=>[oI .eql (.atom 7) (nI (-9223372036854775808)) (.bool false), .op (.un .neg) [.atom 7] (.atom 8)]
theorem P8:bl (fun b=>okR (.tup [.agg [nI 2,Uk b,nI 0, .str []], .bool true]) (callF PG (fOrc noOwn (Lh b false++K9 b)) 10 Ax [.atom 0, .bool b] []))=true:=by kernel_rfl
theorem Rk {nu:Nat→PV} {x r:PV} {n:Int} (h1:subD nu x=nI n) (h2:subD nu r=nI (-n)) (hn : -9223372036854775808 < n∧n≤9223372036854775807) (h3:oneB nu r=true):FactOk PG nu (.op (.un .neg) [x] r):=by
 refine ⟨?_,h3⟩
 show unP .neg (subD nu x)=some (subD nu r)
 rw [h1,h2]
 show some (PV.int .i64 (IntKind.i64.wrap (0 - n)))=_
 rw [w6_id (by omega) (by omega),Int.zero_sub]
theorem I9 {nu:Nat→PV} {x r:PV} {s:List UInt8} {n:Int} (h1:subD nu x = .str s) (hn:n=s.length) (h2:subD nu r=nI n) (h3:oneB nu r=true):FactOk PG nu (.op (.len ty_string) [x] r):=fStrLen h1 (by rw [h2,hn]) h3
def H4 (b:Bool) (n:Int):Int:=if b then n else -n
def Ky (s w p pt a all:List UInt8) (n:Int):List PV:=[.str s, .str w, .str p, .str pt, .str a, .str all,nI all.length,nI n,nI (-n),nI pt.length]
section
variable {s w p:List UInt8}
theorem Pq (b q:Bool) (hlen:s.length≤4000000000) (hcut:Lib.cut s [46]=(w,p,q)) (hw:w.length≤4000000000) (hp:p.length≤4000000000) {pt:List UInt8} (hpt:pt=if q then A9 p else p) (hd:(w++pt).all isDigit=true) (hb : -9223372036854775808≤Aj (Ad (w++pt)) 0) :
  FactsOk PG (nuL (Ky s w p (A9 p) (w++pt) (Ad (w++pt)) (Aj (Ad (w++pt)) 0))) (Lh b q):=by
 have hc:=He s [46] (by omega)
 rw [hcut] at hc
 have htr:=Lu p (by omega)
 have hall:=I5 hd hb
 have hdg:=Gs hd
 have hl:=Oq b q pt hall (Ad (w++pt)) 0 0 rfl (Nat.zero_le _) hdg (Int.le_refl 0) hb
 have hptl:pt.length≤4000000000:=by
  rw [hpt]
  cases q with
  | false=>exact hp
  | true =>
   have:(A9 p).length≤p.length:=by
    unfold A9 Ad
    rw [List.length_reverse]
    have:=(List.dropWhile_suffix (l:=p.reverse) (· == 48)).length_le
    simpa using this
   show (A9 p).length≤_
   omega
 cases q with
 | false =>
  have hpt:pt=p:=hpt
  subst hpt
  exact ⟨fprim hc rfl rfl rfl,fprim htr rfl rfl rfl,Ac (l:=w) (m:=pt) rfl rfl (by omega) rfl rfl,fprim (Ir _) rfl rfl rfl,fStrLen rfl rfl rfl,fCmp (c:=false) (a:=(Ad (w++pt)).length) (b:=19) rfl rfl rfl (by simp only [intP];rw [decide_eq_false (by omega)]) (by decide) rfl,fLoopOk E2 (Nat.le_refl _) hl rfl,trivial⟩
 | true =>
  have hpt:pt=A9 p:=hpt
  subst hpt
  exact ⟨fprim hc rfl rfl rfl,fprim htr rfl rfl rfl,Ac (l:=w) (m:=A9 p) rfl rfl (by omega) rfl rfl,fprim (Ir _) rfl rfl rfl,fStrLen rfl rfl rfl,fCmp (c:=false) (a:=(Ad (w++A9 p)).length) (b:=19) rfl rfl rfl (by simp only [intP];rw [decide_eq_false (by omega)]) (by decide) rfl,fLoopOk E2 (Nat.le_refl _) hl rfl,trivial⟩
theorem Pj {nu:Nat→PV} (b:Bool) {n:Int} (h7:nu 7=nI n) (h8:nu 8=nI (-n)) (hn : -9223372036854775808≤n∧n≤0) (hb:b=false→n≠-9223372036854775808):FactsOk PG nu (K9 b):=by
 cases b with
 | true=>trivial
 | false =>
  have:=hb rfl
  exact ⟨fCmp (c:=false) (a:=n) (b:=-9223372036854775808) h7 rfl rfl (by rw [Pm,beq_eq_false_iff_ne.2 this]) (by decide) rfl,Rk h7 h8 (by omega) (by show (nu 8).one=true;rw [h8];rfl),trivial⟩
theorem I4 (b:Bool) (hlen:s.length≤4000000000) (hd:s.all isDigit=true) (hb : -9223372036854775808≤Aj (Ad s) 0) (hb2:b=false→Aj (Ad s) 0≠-9223372036854775808) :
  Ev PG Ax [.str s, .bool b] (.tup [vP (2,H4 b (Aj (Ad s) 0),0,[]), .bool true]):=by
 have e:s++[]=s:=List.append_nil s
 have hf:=Pq b false hlen (O8 hd) hlen (by simp) (pt:=[]) rfl (by rw [e];exact hd) (by rw [e];exact hb)
 rw [e] at hf
 have h0:=G7 (Ad s) (n:=0) (Gs hd) (Int.le_refl 0)
 have hs:=Pj (nu:=nuL (Ky s s [] (A9 []) s (Ad s) (Aj (Ad s) 0))) b rfl rfl ⟨hb,h0⟩ hb2
 have hk:=okR_eq (bl_all P8 b)
 cases b with
 | true=>exact Ev.facts (args:=[.atom 0, .bool true]) prog_ok (nuL_okB rfl) hk (FactsOk.append hf hs) rfl rfl
 | false=>exact Ev.facts (args:=[.atom 0, .bool false]) prog_ok (nuL_okB rfl) hk (FactsOk.append hf hs) rfl rfl
end
open Go Go.RowKit
def U5 (k:Nat):List Fact :=
 [.prim A2 [.atom 0, .atom 1, .fn Br [] []] (.atom 2),oI .add (.atom 2) (nI 1) (.atom 3), .op (.len ty_string) [.atom 0] (.atom 4)] ++
 match k with
 | 0=>[oI .lss (.atom 3) (.atom 4) (.bool false)]
 | 1=>[oI .lss (.atom 3) (.atom 4) (.bool true), .op (.index ty_string) [.atom 0, .atom 2] (.atom 5),bI .eql (.atom 5) 46 false]
 | _=>[oI .lss (.atom 3) (.atom 4) (.bool true), .op (.index ty_string) [.atom 0, .atom 2] (.atom 5),bI .eql (.atom 5) 46 true, .op (.index ty_string) [.atom 0, .atom 3] (.atom 6), .prim Br [.atom 6] (.bool true), .prim A2 [.atom 0, .atom 3, .fn Br [] []] (.atom 7)]
def K2 (k:Nat):PV:=match k with|0|1=>.atom 2|_=>.atom 7
def U2 (k:Nat):List Fact:=[.op (.slice ty_string true true) [.atom 0, .atom 1,K2 k] (.atom 8), .prim Ax [.atom 8, .bool true] (.tup [.agg [.atom 10, .atom 11, .atom 12, .atom 13], .bool true])]
theorem Kt:((List.range 3).all fun k=>okR (.tup [Cf (nI 3) (.atom 1) (.atom 8) (nI 0) (nI 0) (nI 0) (.str []) (nI 0),K2 k]) (callF PG (fOrc noOwn (U5 k++U2 k)) 10 Eq [.atom 0,D5 (.atom 1)] []))=true:=by kernel_rfl
def Kv (s:List UInt8) (i j:Nat) (c c2:UInt8) (t:Nat) (w:List UInt8) (v:V4):List PV:=[.str s,nI i,nI j,nI (j+1:Nat),nI s.length,nB c,nB c2,nI t, .str w,nI 0,nI v.1,nI v.2.1,nI v.2.2.1, .str v.2.2.2]
def Hn (w:List UInt8) (a:Nat):Sg:=⟨3,a,w,v0,0⟩
theorem Lx {s:List UInt8} {i:Nat} {w t:List UInt8} (h:s.drop i=w++t):(s.take (i+w.length)).drop i=w:=by
 rw [List.drop_take,Nat.add_sub_cancel_left,h];simp
section
variable {s:List UInt8} {i:Nat} {w rest:List UInt8} {v:V4}
theorem M3 (hs:s.length≤9223372036854775805) (hi:i≤s.length) (h:s.drop i=w++rest) (hw:w.all isDigit=true) (hr:C5 isDigit rest=true) (hr2:rest[0]? ≠ some 46) (hm:Ev PG Ax [.str w, .bool true] (.tup [vP v, .bool true])) :
  Ev PG Eq [.str s,Ek 0 i [] 0] (.tup [(Hn w i).pv,nI (i+w.length:Nat)]):=by
 have hp:=M1 (s:=s) (by omega) i hi
 rw [Gy h hw hr] at hp
 have hl:i+w.length+rest.length=s.length:=by
  have:=congrArg List.length h
  simp only [List.length_drop,List.length_append] at this
  omega
 have e3:IntKind.i64.wrap (((i+w.length:Nat):Int)+1)=((i+w.length+1:Nat):Int):=by rw [w6_id (by omega) (by omega)];omega
 have hsl:=Lx h
 by_cases h1:i+w.length+1 < s.length
 ·obtain ⟨c,t,hrest⟩:∃ c t,rest=c::t:=by
   cases rest with
   | nil=>simp at hl;omega
   | cons c t=>exact ⟨c,t,rfl⟩
  have hc:=Do h
  rw [hrest] at hc
  obtain ⟨_,hcc⟩:=Ec hc
  have hne:c≠46:=fun e=>hr2 (by rw [hrest,e];rfl)
  exact Ev.facts (nu:=nuL (Kv s i (i+w.length) c 0 0 w v)) (args:=[.atom 0,D5 (.atom 1)]) prog_ok (nuL_okB rfl) (okR_eq (List.all_eq_true.1 Kt 1 (by decide)))
   (FactsOk.append ⟨fprim hp rfl rfl rfl,fInt (a:=(i+w.length:Nat)) (b:=1) rfl rfl rfl (by simp only [intP];rw [e3]) (by decide) rfl,fStrLen rfl rfl rfl,fCmp (c:=true) (a:=(i+w.length+1:Nat)) (b:=s.length) rfl rfl rfl (by simp only [intP];rw [decide_eq_true (by omega)]) (by decide) rfl,B6 rfl rfl hcc rfl rfl,
    Bc (a:=(c.toNat:Nat)) (b:=(46:Nat)) rfl rfl (Bm (c:=c) (n:=46) (b:=false) (by decide) (beq_eq_false_iff_ne.2 hne)) rfl (by decide) rfl,trivial⟩ ⟨Jy (i:=i) (j:=i+w.length) rfl rfl rfl (by omega) hsl rfl rfl,fprim hm rfl rfl rfl,trivial⟩) rfl rfl
 ·exact Ev.facts (nu:=nuL (Kv s i (i+w.length) 0 0 0 w v)) (args:=[.atom 0,D5 (.atom 1)]) prog_ok (nuL_okB rfl) (okR_eq (List.all_eq_true.1 Kt 0 (by decide)))
   (FactsOk.append ⟨fprim hp rfl rfl rfl,fInt (a:=(i+w.length:Nat)) (b:=1) rfl rfl rfl (by simp only [intP];rw [e3]) (by decide) rfl,fStrLen rfl rfl rfl,fCmp (c:=false) (a:=(i+w.length+1:Nat)) (b:=s.length) rfl rfl rfl (by simp only [intP];rw [decide_eq_false (by omega)]) (by decide) rfl,trivial⟩ ⟨Jy (i:=i) (j:=i+w.length) rfl rfl rfl (by omega) hsl rfl rfl,fprim hm rfl rfl rfl,trivial⟩) rfl rfl
end
open Go Go.RowKit
section
variable {s:List UInt8} {i:Nat} {g:List UInt8}
theorem Ls {c:UInt8} (h:isDigit c=true):Ae c=false:=by
 simp only [isDigit,Bool.and_eq_true,decide_eq_true_eq] at h
 simp only [Ae,Bool.or_eq_false_iff,beq_eq_false_iff_ne]
 refine ⟨fun e=>?_,fun e=>?_⟩<;>subst e<;>simp at h
theorem Jz (hs:s.length≤9223372036854775805) (hi:i≤s.length) {c:UInt8} {w rest:List UInt8} {v:V4} (h:s.drop i=g++((c::w)++rest)) (hg:g.all Ae=true) (hw:(c::w).all isDigit=true) (hr:C5 isDigit rest=true) (hr2:rest[0]? ≠ some 46) (hm:Ev PG Ax [.str (c::w), .bool true] (.tup [vP v, .bool true])) :
  Rd s i (Hn (c::w) (i+g.length)) (i+g.length+(w.length+1)):=by
 have hc:isDigit c=true:=by simp only [List.all_cons,Bool.and_eq_true] at hw;exact hw.1
 have hp:=Gy h hg (by show (!Ae c)=true;rw [Ls hc];rfl)
 have hd:=Do h
 obtain ⟨hil,hcc⟩:=Ec (show s.drop (i+g.length)=c::(w++rest) from hd)
 have hdg:=M3 hs (by omega) hd hw hr hr2 hm
 refine ⟨?_,rfl,by show (3:Int)≠6;decide⟩
 exact N9 (s:=s) (by omega) i hi (c:=c) (x:=Hn (c::w) (i+g.length)) (te:=i+g.length+(w.length+1)) (by rw [hp];exact hcc) (fun e=>by subst e;cases hc) (.inr (.inl ⟨hc,by rw [hp];exact hdg⟩))
end
def D3 (j:Nat):PV:=.tup [.agg [.atom j, .atom (j+1), .atom (j+2), .atom (j+3)], .bool true]
theorem Qc:Dz (D3 20) (okD 10 9) (callF PG (fOrc noOwn [oI .eql (.atom 1) (nI 4) (.bool false),oI .eql (.atom 1) (nI 3) (.bool true), .prim Ax [.atom 3, .bool false] (D3 20),Hm (okD 1 9) (okD 10 9)]) 20 F7 [.box 0 0] (okD 1 9))=true:=by kernel_rfl
def Lj (b1 b2 b3:Bool):List Fact:=[oI .eql (.atom 1) (nI 4) (.bool false),oI .eql (.atom 1) (nI 3) (.bool false),Ej (okD 1 9) "true" b1,Ej (okD 1 9) "false" b2,Ej (okD 1 9) "null" b3]
theorem Qe:Dz (D3 20) (okD 30 9) (callF PG (fOrc noOwn (Lj false false false++[Ej (okD 1 9) "-" true, .prim Bz [.atom 0, .atom 8] (.tup [Cf (.atom 10) (.atom 11) (.atom 12) (.atom 13) (.atom 14) (.atom 15) (.atom 16) (nI 0), .atom 17]),oI .neq (.atom 10) (nI 3) (.bool false),Hm (okD 1 9) (okD 10 9), .prim Ax [.atom 12, .bool true] (D3 20),Hm (okD 10 9) (okD 30 9)])) 20 F7 [.box 0 0] (okD 1 9))=true:=by kernel_rfl
def Hi (s:List UInt8) (x:Sg) (tt dp:Nat) (v:V4) (z:Sg) (tz:Nat):Prop:=EvS PG F7 [.box 0 0] (Bq s x tt dp) (.tup [vP v, .bool true]) (Bq s z tz dp)
def Uw (v:V4):List PV:=[nI v.1,nI v.2.1,nI v.2.2.1, .str v.2.2.2]
def Kx (s:List UInt8) (x:Sg) (tt dp:Nat) (y:Sg) (tu:Nat) (v:V4) (z:Sg) (tz:Nat):List PV:=PV.str s::(sv x tt++(nI dp::(sv y tu++([nI 0,nI 0]++(Uw v++([nI 0,nI 0,nI 0,nI 0,nI 0,nI 0]++sv z tz))))))
section
variable {s:List UInt8} {x y z:Sg} {tt tu tz:Nat} (dp:Nat) {v:V4}
theorem M9 (hk:x.k=3) (hm:Ev PG Ax [.str x.w, .bool false] (.tup [vP v, .bool true])) (hy:Rd s tt y tu):Hi s x tt dp v y tu :=
 EvS.facts (nu:=nuL (Kx s x tt dp y tu v y tu)) (args:=[.box 0 0]) (s:=okD 1 9) (s':=okD 10 9) (r:=D3 20) prog_ok (nuL_okB rfl) (E6 Qc)
  ⟨fCmp (c:=false) rfl rfl rfl (by rw [Da,hk];rfl) (by decide) rfl,fCmp (c:=true) rfl rfl rfl (by rw [Da,hk];rfl) (by decide) rfl,fprim hm rfl rfl rfl,Dy (Ha x dp hy) rfl rfl rfl rfl rfl,trivial⟩ rfl rfl rfl
theorem O6 {nu:Nat→PV} {b1 b2 b3:Bool} (h1:nu 1=nI x.k) (h0:(okD 1 9).map (subRes nu)=Bq s x tt dp) (hk4:x.k≠4) (hk3:x.k≠3) (e1:Be x (kw "true")=b1) (e2:Be x (kw "false")=b2) (e3:Be x (kw "null")=b3):FactsOk PG nu (Lj b1 b2 b3) :=
 ⟨fCmp (c:=false) h1 rfl rfl (by rw [Da,beq_eq_false_iff_ne.2 hk4]) (by decide) rfl,fCmp (c:=false) h1 rfl rfl (by rw [Da,beq_eq_false_iff_ne.2 hk3]) (by decide) rfl,F4 h0 e1 rfl,F4 h0 e2 rfl,F4 h0 e3 rfl,trivial⟩
theorem Na (hx:Be x (kw "true")=false) (h2:Be x (kw "false")=false) (h3:Be x (kw "null")=false) (hk4:x.k≠4) (hk3:x.k≠3) (hm:Be x (kw "-")=true) (hy:Rd s tt y tu) (hyk:y.k=3) (hv:Ev PG Ax [.str y.w, .bool true] (.tup [vP v, .bool true])) (hz:Rd s tu z tz):Hi s x tt dp v z tz:=by
 have he:=hy.ev
 have h0:=hy.e
 have hn1:=Ha x dp hy
 have hn2:=Ha y dp hz
 obtain ⟨k,a,w,v',e⟩:=y
 dsimp only at h0 hyk hv
 subst h0
 subst hyk
 exact EvS.facts (nu:=nuL (Kx s x tt dp ⟨3,a,w,v',0⟩ tu v z tz)) (args:=[.box 0 0]) (s:=okD 1 9) (s':=okD 30 9) (r:=D3 20) prog_ok (nuL_okB rfl) (E6 Qe)
  (FactsOk.append (O6 dp rfl rfl hk4 hk3 hx h2 h3) ⟨F4 rfl hm rfl,fprim he rfl rfl rfl,fCmp (c:=false) rfl rfl rfl (by rw [Qp];rfl) (by decide) rfl,Dy hn1 rfl rfl rfl rfl rfl,fprim hv rfl rfl rfl,Dy hn2 rfl rfl rfl rfl rfl,trivial⟩) rfl rfl rfl
end
open Go Go.RowKit
def E7.lit (v:V4):E7:=⟨nI 1, .str [],nI v.1,nI v.2.1,nI v.2.2.1, .str v.2.2.2, .nilslice⟩
open Go Go.RowKit
def Ak (m w:Nat):List UInt8:=if m=0∧w=0 then [] else Ak (m / 10) (w - 1)++[UInt8.ofNat (48+m % 10)]
termination_by m+w
decreasing_by
 rename_i h
 have:m / 10≤m:=Nat.div_le_self m 10
 rcases Nat.eq_zero_or_pos m with h0|h0
 ·subst h0;simp at h ⊢;omega
 ·have:m / 10 < m:=Nat.div_lt_self h0 (by decide)
  omega
def Ei:List (Nat × PV):=[(0, .atom 0),(1, .atom 1),(5, .atom 2)]
def D4 (b1 b2:Bool):List Fact:=[oI .lss (.atom 0) (nI 0) (.bool b1), .op (.len ty_string) [.atom 2] (.atom 3),oI .lss (.atom 3) (.atom 1) (.bool b2)]
def H7:List Fact:=[oI .rem (.atom 0) (nI 10) (.atom 4),oI .sub (nI 48) (.atom 4) (.atom 5), .op (.conv ty_int ty_uint8) [.atom 5] (.atom 6), .op (.conv ty_sl_uint8 ty_string) [.slice 1 [.atom 6]] (.atom 7), .op (.bin .add ty_string) [.atom 7, .atom 2] (.atom 8),oI .quo (.atom 0) (nI 10) (.atom 9)]
noncomputable abbrev Hk (fs:List Fact):Option (Ex × St):=execN PG (fOrc noOwn fs) (callF PG (fOrc noOwn fs) 5) ((fOrc noOwn fs).loop Bh) 5 3 (loopAt PG Bh 2) ⟨Ei,[]⟩
theorem Ea:loneB PG Bh 2=true:=by kernel_rfl
theorem Rn:runsB (Hk (D4 false false)) (.exit 0) [(5, .atom 2)] []=true:=by kernel_rfl
theorem Kr:bl (fun b=>runsB (Hk (D4 b (!b)++H7)) .normal [(0, .atom 9),(1, .atom 1),(5, .atom 8)] [])=true:=by kernel_rfl
theorem Sv:runsB (Hk (D4 true true++H7)) .normal [(0, .atom 9),(1, .atom 1),(5, .atom 8)] []=true:=by kernel_rfl
theorem Ro:okR (.atom 2) (callF PG (fOrc noOwn [.loop Bh 2 [(0, .atom 0),(1, .atom 1),(5, .str [])] [] (.exit 0) [(5, .atom 2)] []]) 5 Bh [.atom 0, .atom 1] [])=true:=by kernel_rfl
theorem O9 {nu:Nat→PV} {x r:PV} {n:Int} (h1:subD nu x=nI n) (h2:subD nu r = .int .u8 n) (hn:0≤n∧n≤255) (h3:oneB nu r=true):FactOk PG nu (.op (.conv ty_int ty_uint8) [x] r):=by
 refine ⟨?_,h3⟩
 show convP PG ty_int ty_uint8 (subD nu x)=some (subD nu r)
 rw [h1,h2]
 have e1:PG.underlying ty_uint8=some (.int .u8):=by kernel_rfl
 have e2:PG.underlying ty_int=some (.int .i64):=by kernel_rfl
 unfold convP
 rw [e1,e2]
 show some (PV.int .u8 (IntKind.u8.wrap n))=_
 rw [Go.IntWalk.u8_in n hn]
theorem N2 {nu:Nat→PV} {x r:PV} {c:UInt8} (h1:subD nu x=nB c) (h2:subD nu r = .str [c]) (h3:oneB nu r=true):FactOk PG nu (.op (.conv ty_sl_uint8 ty_string) [.slice 1 [x]] r):=by
 refine ⟨?_,h3⟩
 show convP PG ty_sl_uint8 ty_string (.slice 1 [subD nu x])=some (subD nu r)
 rw [h1,h2]
 have e1:PG.underlying ty_sl_uint8=some (.slice ty_uint8):=by kernel_rfl
 have e2:PG.underlying ty_string=some .string:=by kernel_rfl
 have e3:PG.underlying ty_uint8=some (.int .u8):=by kernel_rfl
 unfold convP
 rw [e1,e2]
 simp only [e3]
 show (match bytesOf [.int .u8 (c.toNat:Int)] with|some l=>some (PV.str l)|none=>none)=_
 simp [bytesOf]
def Ce (m w:Nat) (acc:List UInt8):List PV:=[nI (-(m:Int)),nI w, .str acc,nI acc.length,nI (-((m % 10:Nat):Int)),nI ((48+m % 10:Nat):Int),nB (UInt8.ofNat (48+m % 10)), .str [UInt8.ofNat (48+m % 10)], .str (UInt8.ofNat (48+m % 10)::acc),nI (-((m / 10:Nat):Int))]
theorem C6:Ak 0 0=[]:=by unfold Ak;rfl
theorem Bi {m w:Nat} (h:¬ (m=0∧w=0)):Ak m w=Ak (m / 10) (w - 1)++[UInt8.ofNat (48+m % 10)]:=by
 conv=>lhs;unfold Ak
 rw [if_neg h]
theorem E0:∀ (j:Nat) {m w:Nat},m < 10 ^ j→w≤j→(Ak m w).length≤j
 | 0,m,w,h,hw=>by
  obtain rfl:m=0:=by simpa using h
  obtain rfl:w=0:=by omega
  rw [C6];simp
 | j+1,m,w,h,hw=>by
  by_cases hc:m=0∧w=0
  ·rw [hc.1,hc.2,C6];simp
  ·rw [Bi hc,List.length_append]
   have:=E0 j (m:=m / 10) (w:=w - 1) (by rw [Nat.pow_succ] at h;omega) (by omega)
   simp only [List.length_cons,List.length_nil]
   omega
set_option maxRecDepth 20000 in
theorem Oj (w:Nat):∀ (k m:Nat) (acc:List UInt8),(Ak m (w - acc.length)).length=k→m≤9223372036854775808→acc.length+k≤1000→w≤1000 →
  RunsR PG (ntOf PG Bh) (loopAt PG Bh 2) [(0,nI (-(m:Int))),(1,nI w),(5, .str acc)] [] (.exit 0) [(5, .str (Ak m (w - acc.length)++acc))] []:=by
 intro k
 induction k with
 | zero =>
  intro m acc hk hm ha hw
  have hc:m=0∧w - acc.length=0:=by
   by_cases hc:m=0∧w - acc.length=0
   ·exact hc
   ·rw [Bi hc] at hk;simp at hk
  obtain ⟨rfl,hw0⟩:=hc
  rw [hw0,C6]
  refine RunsR.leave ?_ (fun h=>by cases h)
  exact RunsP.chk (nu:=nuL (Ce 0 w acc)) prog_ok (nuL_okB rfl) (T:=Ei) (s:=[]) (T':=[(5, .atom 2)]) (s':=[]) Ea Rn
   ⟨fCmp (c:=false) (a:=0) (b:=0) rfl rfl rfl rfl (by decide) rfl,fStrLen rfl rfl rfl,fCmp (c:=false) (a:=acc.length) (b:=w) rfl rfl rfl (by simp only [intP];rw [decide_eq_false (by omega)]) (by decide) rfl,trivial⟩ rfl rfl rfl
 | succ k ih =>
  intro m acc hk hm ha hw
  have hc:¬ (m=0∧w - acc.length=0):=fun hc=>by rw [hc.1,hc.2,C6] at hk;simp at hk
  have hs:=Bi hc
  have hwa:w - (UInt8.ofNat (48+m % 10)::acc).length=w - acc.length - 1:=by rw [List.length_cons];omega
  have hr:=ih (m / 10) (UInt8.ofNat (48+m % 10)::acc) (by rw [hwa];rw [hs,List.length_append] at hk;simpa using hk) (by omega) (by rw [List.length_cons];omega) hw
  have e0:Ak (m / 10) (w - acc.length - 1)++UInt8.ofNat (48+m % 10)::acc=Ak m (w - acc.length)++acc:=by rw [hs];simp
  rw [hwa,e0] at hr
  have e1:(-(m:Int)).tmod 10 = -((m % 10:Nat):Int):=by rw [Int.neg_tmod,Int.tmod_eq_emod_of_nonneg (by omega)];omega
  have e2:IntKind.i64.wrap (48 - -((m % 10:Nat):Int))=((48+m % 10:Nat):Int):=by rw [w6_id (by omega) (by omega)];omega
  have e3:(-(m:Int)).tdiv 10 = -((m / 10:Nat):Int):=by rw [Int.neg_tdiv,Int.tdiv_eq_ediv_of_nonneg (by omega)];omega
  have e4:IntKind.i64.wrap (-((m / 10:Nat):Int)) = -((m / 10:Nat):Int):=w6_id (by omega) (by omega)
  have e5:(UInt8.ofNat (48+m % 10)).toNat=48+m % 10:=by simp only [UInt8.toNat_ofNat'];omega
  have hcv:PV.int .u8 ((48+m % 10:Nat):Int)=nB (UInt8.ofNat (48+m % 10)):=by show _=PV.int .u8 (((UInt8.ofNat (48+m % 10)).toNat:Nat):Int);rw [e5]
  have hB:FactsOk PG (nuL (Ce m w acc)) H7 :=
   ⟨fInt (a:=-(m:Int)) (b:=10) rfl rfl rfl (by simp [intP,e1]) (by decide) rfl,fInt (a:=48) (b:=-((m % 10:Nat):Int)) rfl rfl rfl (by simp only [intP];rw [e2]) (by decide) rfl,O9 (n:=((48+m % 10:Nat):Int)) rfl hcv.symm (by omega) rfl,N2 rfl rfl rfl,
    Ac (l:=[UInt8.ofNat (48+m % 10)]) (m:=acc) rfl rfl (by simp;omega) rfl rfl,fInt (a:=-(m:Int)) (b:=10) rfl rfl rfl (by simp [intP,e3];simpa using e4) (by decide) rfl,trivial⟩
  refine RunsR.round ?_ hr
  by_cases hm0:m=0
  ·subst hm0
   have hA:FactsOk PG (nuL (Ce 0 w acc)) (D4 false true):=⟨fCmp (c:=false) (a:=0) (b:=0) rfl rfl rfl rfl (by decide) rfl,fStrLen rfl rfl rfl,fCmp (c:=true) (a:=acc.length) (b:=w) rfl rfl rfl (by simp only [intP];rw [decide_eq_true (by omega)]) (by decide) rfl,trivial⟩
   exact RunsP.chk (nu:=nuL (Ce 0 w acc)) prog_ok (nuL_okB rfl) (T:=Ei) (s:=[]) (T':=[(0, .atom 9),(1, .atom 1),(5, .atom 8)]) (s':=[]) Ea (bl_all Kr false) (FactsOk.append hA hB) rfl rfl rfl
  ·have hlt:decide (-(m:Int) < 0)=true:=decide_eq_true (by omega)
   by_cases hw1:acc.length < w
   ·have hA:FactsOk PG (nuL (Ce m w acc)) (D4 true true):=⟨fCmp (c:=true) (a:=-(m:Int)) (b:=0) rfl rfl rfl (by simp only [intP];rw [hlt]) (by decide) rfl,fStrLen rfl rfl rfl,fCmp (c:=true) (a:=acc.length) (b:=w) rfl rfl rfl (by simp only [intP];rw [decide_eq_true (by omega)]) (by decide) rfl,trivial⟩
    exact RunsP.chk (nu:=nuL (Ce m w acc)) prog_ok (nuL_okB rfl) (T:=Ei) (s:=[]) (T':=[(0, .atom 9),(1, .atom 1),(5, .atom 8)]) (s':=[]) Ea Sv (FactsOk.append hA hB) rfl rfl rfl
   ·have hA:FactsOk PG (nuL (Ce m w acc)) (D4 true false):=⟨fCmp (c:=true) (a:=-(m:Int)) (b:=0) rfl rfl rfl (by simp only [intP];rw [hlt]) (by decide) rfl,fStrLen rfl rfl rfl,fCmp (c:=false) (a:=acc.length) (b:=w) rfl rfl rfl (by simp only [intP];rw [decide_eq_false (by omega)]) (by decide) rfl,trivial⟩
    exact RunsP.chk (nu:=nuL (Ce m w acc)) prog_ok (nuL_okB rfl) (T:=Ei) (s:=[]) (T':=[(0, .atom 9),(1, .atom 1),(5, .atom 8)]) (s':=[]) Ea (bl_all Kr true) (FactsOk.append hA hB) rfl rfl rfl
theorem Nh {m w:Nat} (hm:m≤9223372036854775808) (hw:w≤100):Ev PG Bh [nI (-(m:Int)),nI w] (.str (Ak m w)):=by
 have hl:(Ak m w).length≤100:=E0 100 (Nat.lt_of_le_of_lt hm (by decide)) hw
 have h:=Oj w (Ak m w).length m [] rfl hm (by simp;omega) (by omega)
 rw [List.append_nil] at h
 exact Ev.facts (nu:=nuL [nI (-(m:Int)),nI w, .str (Ak m w)]) prog_ok (nuL_okB rfl) (okR_eq Ro) ⟨fLoopOk Ea (Nat.le_refl _) h rfl,trivial⟩ rfl rfl
open Go Go.RowKit
def Ab (n:Int):List UInt8:=if n≥0 then [] else [45]
def Af (n:Int) (k:Nat):List UInt8:=Ak n.natAbs (k+1)
def Aa (n:Int) (k:Nat):List UInt8:=(Af n k).take ((Af n k).length - k)
def A8 (n:Int) (k:Nat):List UInt8:=(Af n k).drop ((Af n k).length - k)
def K3:Bool→List Fact
 | true=>[oI .sub (nI 0) (.atom 0) (.atom 2), .prim Bh [.atom 2, .atom 3] (.atom 4)]
 | false=>[.prim Bh [.atom 0, .atom 3] (.atom 4)]
def Ld (b:Bool):List Fact:=K3 b++[oI .geq (.atom 0) (nI 0) (.bool b),oI .add (.atom 1) (nI 1) (.atom 3), .op (.len ty_string) [.atom 4] (.atom 5),oI .sub (.atom 5) (.atom 1) (.atom 6),
 .op (.slice ty_string false true) [.atom 4, .atom 6] (.atom 7), .op (.bin .add ty_string) [.str (if b then [] else [45]), .atom 7] (.atom 8)]
theorem Qa:bl (fun b=>okR (.atom 8) (callF PG (fOrc noOwn (Ld b)) 10 Gk [.agg [nI 2, .atom 0, .atom 1, .str []]] []))=true:=by kernel_rfl
theorem Rb:okR (.atom 2) (callF PG (fOrc noOwn [.prim Gk [.agg [nI 2, .atom 0, .atom 1, .str []]] (.atom 2)]) 10 Dp [.agg [nI 2, .atom 0, .atom 1, .str []]] [])=true:=by kernel_rfl
def Hv (n:Int) (k:Nat):List PV :=
 [nI n,nI k,nI (-n),nI (k+1:Nat), .str (Af n k),nI (Af n k).length,nI ((Af n k).length - k:Nat), .str (Aa n k), .str (Ab n++Aa n k), .str (Ab n++Aa n k++[46,48]), .str (Ab n++Aa n k++[46]), .str (A8 n k), .str (Ab n++Aa n k++[46]++A8 n k)]
theorem Hf:∀ (w m:Nat),w≤(Ak m w).length
 | 0,m=>Nat.zero_le _
 | w+1,m=>by
  rw [Bi (by omega),List.length_append]
  have:=Hf w (m / 10)
  simp only [List.length_cons,List.length_nil,Nat.add_sub_cancel]
  omega
section
variable {n:Int} {k:Nat}
theorem Eb (hn : -9223372036854775808≤n∧n≤9223372036854775807) (hk:k≤6):k+1≤(Af n k).length∧(Af n k).length≤100 :=
 ⟨Hf _ _,E0 100 (Nat.lt_of_le_of_lt (show n.natAbs≤9223372036854775808 by omega) (by decide)) (by omega)⟩
theorem Pz (hn : -9223372036854775808≤n∧n≤9223372036854775807) (hk:k≤6) (b:Bool) (hb:decide (n≥0)=b):FactsOk PG (nuL (Hv n k)) (Ld b):=by
 obtain ⟨h1,h2⟩:=Eb hn hk
 have hD:=Nh (m:=n.natAbs) (w:=k+1) (by omega) (by omega)
 have e3:IntKind.i64.wrap ((k:Int)+1)=((k+1:Nat):Int):=by rw [w6_id (by omega) (by omega)];omega
 have e6:IntKind.i64.wrap (((Af n k).length:Int) - (k:Int))=(((Af n k).length - k:Nat):Int):=by rw [w6_id (by omega) (by omega)];omega
 have hwl:(Aa n k).length≤100:=by unfold Aa;rw [List.length_take];omega
 have hsg:Ab n=if b then [] else [45]:=by
  unfold Ab
  cases b with
  | true=>rw [if_pos (by simpa using hb)];rfl
  | false=>rw [if_neg (by simpa using hb)];rfl
 have hDig:FactsOk PG (nuL (Hv n k)) (K3 b):=by
  cases b with
  | true =>
   have h0:n≥0:=by simpa using hb
   rw [show (-(n.natAbs:Int)) = -n by omega] at hD
   have e2:IntKind.i64.wrap (0 - n) = -n:=by rw [w6_id (by omega) (by omega)];omega
   exact ⟨fInt (a:=0) (b:=n) rfl rfl rfl (by simp only [intP];rw [e2]) (by decide) rfl,fprim hD rfl rfl rfl,trivial⟩
  | false =>
   have h0:¬ n≥0:=by simpa using hb
   rw [show (-(n.natAbs:Int))=n by omega] at hD
   exact ⟨fprim hD rfl rfl rfl,trivial⟩
 exact FactsOk.append hDig ⟨fCmp (a:=n) (b:=0) (c:=b) rfl rfl rfl (by simp only [intP];rw [hb]) (by decide) rfl,fInt (a:=k) (b:=1) rfl rfl rfl (by simp only [intP];rw [e3]) (by decide) rfl,fStrLen rfl rfl rfl,fInt (a:=(Af n k).length) (b:=k) rfl rfl rfl (by simp only [intP];rw [e6]) (by decide) rfl,
  D9 rfl rfl (by omega) rfl rfl rfl,Ac (l:=if b then [] else [45]) (m:=Aa n k) rfl rfl (by cases b<;>simp<;>omega) (by rw [← hsg];rfl) rfl,trivial⟩
theorem L2 (hn : -9223372036854775808≤n∧n≤9223372036854775807):Ev PG Gk [vP (2,n,0,[])] (.str (Ab n++Aa n 0)) :=
 Ev.facts (nu:=nuL (Hv n 0)) (args:=[.agg [nI 2, .atom 0, .atom 1, .str []]]) prog_ok (nuL_okB rfl) (okR_eq (bl_all Qa (decide (n≥0)))) (Pz hn (by decide) _ rfl) rfl rfl
def Dk (n:Int) (k:Nat):List UInt8:=if k=0 then [48] else A8 n k
theorem Ns (hn : -9223372036854775808≤n∧n≤9223372036854775807):Ev PG Dp [vP (2,n,0,[])] (.str (Ab n++Aa n 0)) :=
 Ev.facts (nu:=nuL [nI n,nI 0, .str (Ab n++Aa n 0)]) (args:=[.agg [nI 2, .atom 0, .atom 1, .str []]]) prog_ok (nuL_okB rfl) (okR_eq Rb) ⟨fprim (L2 hn) rfl rfl rfl,trivial⟩ rfl rfl
end
open Go Go.RowKit
def Bg (a:Nat):List UInt8:=List.replicate a 48
theorem Np (a b:List UInt8) (n:Int):Aj (a++b) n=Aj b (Aj a n):=List.foldl_append
theorem G6:∀ (j:Nat) {m w:Nat},m < 10 ^ j→w≤j→Aj (Ak m w) 0 = -(m:Int)∧(Ak m w).all isDigit=true
 | 0,m,w,h,hw=>by
  obtain rfl:m=0:=by simpa using h
  obtain rfl:w=0:=by omega
  rw [C6];exact ⟨rfl,rfl⟩
 | j+1,m,w,h,hw=>by
  by_cases hc:m=0∧w=0
  ·rw [hc.1,hc.2,C6];exact ⟨rfl,rfl⟩
  ·rw [Bi hc,Np,List.all_append]
   obtain ⟨h1,h2⟩:=G6 j (m:=m / 10) (w:=w - 1) (by rw [Nat.pow_succ] at h;omega) (by omega)
   have e5:(UInt8.ofNat (48+m % 10)).toNat=48+m % 10:=by simp only [UInt8.toNat_ofNat'];omega
   rw [h1,h2]
   refine ⟨?_,?_⟩
   ·show 10*-((m / 10:Nat):Int) - (((UInt8.ofNat (48+m % 10)).toNat:Int) - 48)=_
    rw [e5];omega
   ·simp only [List.all_cons,List.all_nil,isDigit,e5,Bool.and_true,Bool.true_and,Bool.and_eq_true,decide_eq_true_eq]
    omega
theorem Iw:∀ (l:List UInt8),Aj (Ad l) 0=Aj l 0
 | []=>rfl
 | c::l=>by
  unfold Ad
  rw [List.dropWhile_cons]
  split
  ·rename_i hc
   rw [beq_iff_eq] at hc
   subst hc
   have:=Iw l
   unfold Ad at this
   rw [this];rfl
  ·rfl
section
variable {n:Int} {k:Nat}
theorem Qx (n:Int) (k:Nat):Aa n k++A8 n k=Af n k:=List.take_append_drop _ _
theorem Jn (hn : -9223372036854775808≤n∧n≤9223372036854775807) (hk:k≤6):Aj (Af n k) 0 = -(n.natAbs:Int)∧(Af n k).all isDigit=true :=
 G6 100 (Nat.lt_of_le_of_lt (show n.natAbs≤9223372036854775808 by omega) (by decide)) (by omega)
theorem Jf (hn : -9223372036854775808≤n∧n≤9223372036854775807) (hk:k≤6):(Aa n k).all isDigit=true∧(A8 n k).all isDigit=true:=by
 have:=(Jn hn hk).2
 rw [← Qx,List.all_append,Bool.and_eq_true] at this
 exact this
end
open Go Go.RowKit
open Go Go.RowKit
theorem Jb:∀ w:Nat,Ak 0 w=Bg w
 | 0=>C6
 | w+1=>by
  rw [Bi (by omega),show (0:Nat) / 10=0 from rfl,Nat.add_sub_cancel,Jb w]
  unfold Bg
  rw [List.replicate_succ'];rfl
theorem Oo {m:Nat} (h:0 < m):Ak m 0=Ak m 1:=by
 rw [Bi (by omega),Bi (m:=m) (w:=1) (by omega)]
theorem Jl (m:Nat):∀ w:Nat,1≤w→Ak m w=Bg (w - (Lib.decDigits m).length)++Lib.decDigits m:=by
 induction m using Lib.decDigits.induct with
 | case1 m h =>
  intro w hw
  have e:m / 10=0:=Nat.div_eq_of_lt h
  rw [Bi (by omega),e,Jb,Lib.decDigits_one h,Nat.mod_eq_of_lt h]
  rfl
 | case2 m h ih =>
  intro w hw
  rw [Lib.decDigits,dif_neg h,Bi (by omega)]
  by_cases h1:w=1
  ·subst h1
   have hm:0 < m / 10:=by omega
   have hl:1≤(Lib.decDigits (m / 10)).length:=by
    rw [Lib.decDigits_length]
    unfold Lib.nDigits
    split<;>omega
   have:=ih 1 (Nat.le_refl 1)
   rw [show 1 - 1=0 from rfl,Oo hm,this]
   rw [List.length_append,show 1 - (Lib.decDigits (m / 10)).length=0 by omega,show 1 - ((Lib.decDigits (m / 10)).length+[UInt8.ofNat (48+m % 10)].length)=0 by simp]
   simp
  ·have:=ih (w - 1) (by omega)
   rw [this,List.length_append,List.length_singleton,show w - 1 - (Lib.decDigits (m / 10)).length=w - ((Lib.decDigits (m / 10)).length+1) by omega,List.append_assoc]
theorem E9 (m:Nat):Lib.decDigits m=Ak m 1:=by
 have h:=Jl m 1 (Nat.le_refl 1)
 have hl:1≤(Lib.decDigits m).length:=by
  rw [Lib.decDigits_length]
  unfold Lib.nDigits
  split<;>omega
 rw [h,show 1 - (Lib.decDigits m).length=0 by omega]
 rfl
theorem Jc (n:Int):Lib.itoa n=Ab n++Lib.decDigits n.natAbs:=by
 unfold Lib.itoa Ab
 by_cases h:n < 0
 ·rw [if_pos h,if_neg (by omega)];rfl
 ·rw [if_neg h,if_pos (by omega),show n.toNat=n.natAbs by omega];rfl
theorem N4 (n:Int):Lib.itoa n=Ab n++Aa n 0:=by
 rw [Jc,E9]
 unfold Aa Af
 rw [Nat.sub_zero,List.take_length]
theorem P7:okR (.atom 1) (callF PG (fOrc noOwn [.prim Ep [.atom 0] (.atom 1)]) 10 Aq [.agg [nI 2, .atom 0,nI 0, .str []]] [])=true:=by kernel_rfl
theorem Jd {n:Int} (hn : -9223372036854775808≤n∧n≤9223372036854775807):Ev PG Aq [vP (2,n,0,[])] (.str (Ab n++Aa n 0)):=by
 have h:=E5 n hn
 rw [N4] at h
 exact Ev.facts (nu:=nuL [nI n, .str (Ab n++Aa n 0)]) (args:=[.agg [nI 2, .atom 0,nI 0, .str []]]) prog_ok (nuL_okB rfl) (okR_eq P7) ⟨fprim h rfl rfl rfl,trivial⟩ rfl rfl
open Go Go.RowKit
def Ll (b:Bool):List Fact:=[.op (.len ty_string) [.atom 0] (.atom 1),oI .geq (.atom 1) (nI 1) (.bool true), .op (.slice ty_string false true) [.atom 0,nI 1] (.atom 2), .op (.bin .eql ty_string) [.atom 2, .str [45]] (.bool b), .op (.slice ty_string true false) [.atom 0,nI 1] (.atom 3)]
theorem Ku:bl (fun b=>okR (if b then .atom 3 else .atom 0) (callF PG (fOrc noOwn (Ll b)) 10 F9 [.atom 0, .str [45]] []))=true:=by kernel_rfl
theorem Ii {c:UInt8} {s:List UInt8}:Ev PG F9 [.str (c::s), .str [45]] (.str (if c==45 then s else c::s)):=by
 have hf:∀ b,(c==45)=b→FactsOk PG (nuL [.str (c::s),nI (c::s).length, .str [c], .str s]) (Ll b):=fun b hb =>
  ⟨fStrLen rfl rfl rfl,fCmp (a:=(c::s).length) (b:=1) (c:=true) rfl rfl rfl (by simp only [intP];rw [decide_eq_true (by rw [List.length_cons];omega)]) (by decide) rfl,D9 (s:=c::s) (j:=1) rfl rfl (by rw [List.length_cons];omega) rfl rfl rfl,Cc (l:=[c]) (m:=[45]) rfl rfl (C4 _ _) (by show PV.bool b = .bool ([c]==[45]);rw [← hb];simp) rfl,
   Ey (s:=c::s) (i:=1) rfl rfl (by rw [List.length_cons];omega) rfl rfl rfl,trivial⟩
 cases hb:(c==45) with
 | true=>exact Ev.facts (args:=[.atom 0, .str [45]]) prog_ok (nuL_okB rfl) (okR_eq (bl_all Ku true)) (hf true hb) rfl rfl
 | false=>exact Ev.facts (args:=[.atom 0, .str [45]]) prog_ok (nuL_okB rfl) (okR_eq (bl_all Ku false)) (hf false hb) rfl rfl
theorem Q2:((List.range 7).all fun c=>okR (.str (Bg c)) (callF PG noOrc 40 Ge [.str [48],nI (c:Nat)] []))=true:=by kernel_rfl
theorem Ni {c:Nat} (h:c≤6):Ev PG Ge [.str [48],nI c] (.str (Bg c)) :=
 Ev.ofD (nu:=nuL []) (args:=[.str [48],nI c]) prog_ok (nuL_okB rfl) (noOrc_ok PG _) (okR_eq (List.all_eq_true.1 Q2 c (by rw [List.mem_range];omega))) (fun p hp=>by simp at hp;rcases hp with rfl|rfl<;>exact ⟨rfl,rfl⟩) rfl rfl
def F3 (b:Bool):List Fact:=[.prim Ep [.atom 0] (.atom 1), .prim D7 [.atom 1, .str [45]] (.bool b), .prim F9 [.atom 1, .str [45]] (.atom 2)]
def K4:List Fact:=[.op (.bin .add ty_string) [.atom 2, .str [46,48]] (.atom 3)]
def Lm (k L:Nat):List Fact:=[.op (.len ty_string) [.atom 2] (nI L), .prim Ge [.str [48],nI (k+1 - L:Nat)] (.str (Bg (k+1 - L))), .op (.bin .add ty_string) [.str (Bg (k+1 - L)), .atom 2] (.atom 4), .op (.len ty_string) [.atom 4] (nI (k+1 - L+L:Nat)),
 .op (.slice ty_string false true) [.atom 4,nI (k+1 - L+L - k:Nat)] (.atom 5), .op (.bin .add ty_string) [.atom 5, .str [46]] (.atom 6), .op (.slice ty_string true false) [.atom 4,nI (k+1 - L+L - k:Nat)] (.atom 7), .op (.bin .add ty_string) [.atom 6, .atom 7] (.atom 3)]
def Ft:List Fact:=[.op (.bin .add ty_string) [.str [45], .atom 3] (.atom 9)]
theorem P6:bl (fun b=>okR (if b then .atom 9 else .atom 3) (callF PG (fOrc noOwn (F3 b++(K4++Ft))) 10 Dn [.agg [nI 3, .atom 0,nI 0, .str []]] []))=true:=by kernel_rfl
theorem P3:bl (fun b=>(List.range 6).all fun k=>(List.range 16).all fun L=>okR (if b then .atom 9 else .atom 3) (callF PG (fOrc noOwn (F3 b++(Lm (k+1) (L+1)++Ft))) 10 Dn [.agg [nI 3, .atom 0,nI (k+1:Nat), .str []]] []))=true:=by kernel_rfl
theorem Rf:okR (.atom 2) (callF PG (fOrc noOwn [.prim Dn [.agg [nI 3, .atom 0, .atom 1, .str []]] (.atom 2)]) 10 Aq [.agg [nI 3, .atom 0, .atom 1, .str []]] [])=true:=by kernel_rfl
section
variable {n:Int} {k:Nat}
theorem Jr (hn : -1000000000000000 < n∧n < 1000000000000000):1≤(Lib.decDigits n.natAbs).length∧(Lib.decDigits n.natAbs).length≤15:=by
 rw [E9]
 exact ⟨Hf _ _,E0 15 (by omega) (by decide)⟩
theorem Nk (hn : -1000000000000000 < n∧n < 1000000000000000):(Lib.decDigits n.natAbs).all isDigit=true:=by
 rw [E9]
 exact (G6 15 (by omega) (by decide)).2
def Dh (n:Int) (x s2 w p:List UInt8):List PV:=[nI n, .str (Ab n++Lib.decDigits n.natAbs), .str (Lib.decDigits n.natAbs), .str x, .str s2, .str w, .str (w++[46]), .str p,nI 0, .str ([45]++x)]
theorem Pg (hn : -1000000000000000 < n∧n < 1000000000000000) (x s2 w p:List UInt8):FactsOk PG (nuL (Dh n x s2 w p)) (F3 (decide (n < 0))):=by
 have h1:=E5 n (by omega)
 rw [Jc] at h1
 have h2:=Il (Ab n++Lib.decDigits n.natAbs) [45]
 obtain ⟨c,w',hw⟩:∃ c w',Lib.decDigits n.natAbs=c::w':=by
  have:=(Jr hn).1
  cases hw:Lib.decDigits n.natAbs with
  | nil=>rw [hw] at this;simp at this
  | cons c w'=>exact ⟨c,w',rfl⟩
 have hd:=Nk hn
 have hc:(c==45)=false:=by
  rw [hw,List.all_cons,Bool.and_eq_true] at hd
  exact beq_eq_false_iff_ne.2 fun e=>by subst e;exact absurd hd.1 (by decide)
 by_cases h0:n < 0
 ·have hs:Ab n=[45]:=if_neg (by omega)
  have h3:=Ii (c:=45) (s:=Lib.decDigits n.natAbs)
  rw [decide_eq_true h0]
  rw [hs] at h1 h2
  have e:([45]:List UInt8).isPrefixOf ([45]++Lib.decDigits n.natAbs)=true:=by simp [List.isPrefixOf]
  rw [e] at h2
  unfold Dh
  rw [hs]
  exact ⟨fprim h1 rfl rfl rfl,fprim h2 rfl rfl rfl,fprim h3 rfl rfl rfl,trivial⟩
 ·have hs:Ab n=[]:=if_pos (by omega)
  have h3:=Ii (c:=c) (s:=w')
  rw [hc,← hw] at h3
  rw [decide_eq_false h0]
  rw [hs] at h1 h2
  have e:([45]:List UInt8).isPrefixOf ([]++Lib.decDigits n.natAbs)=false:=by
   rw [List.nil_append,hw]
   simp only [List.isPrefixOf,Bool.and_true]
   exact beq_eq_false_iff_ne.2 fun e=>by subst e;cases hc
  rw [e] at h2
  unfold Dh
  rw [hs]
  exact ⟨fprim h1 rfl rfl rfl,fprim h2 rfl rfl rfl,fprim h3 rfl rfl rfl,trivial⟩
theorem J1 (x s2 w p:List UInt8) (hx:x.length≤1000):FactsOk PG (nuL (Dh n x s2 w p)) Ft:=⟨Ac (l:=[45]) (m:=x) rfl rfl (by simp;omega) rfl rfl,trivial⟩
theorem L9 (hn : -1000000000000000 < n∧n < 1000000000000000) (hk:k≤6):Ev PG Dn [vP (3,n,k,[])] (.str (Ab n++Aa n k++46::Dk n k)):=by
 have hn' : -9223372036854775808≤n∧n≤9223372036854775807:=by omega
 obtain ⟨hl1,hl15⟩:=Jr hn
 obtain ⟨hg1,hg2⟩:=Eb hn' hk
 have hwl:(Aa n k).length≤100:=by unfold Aa;rw [List.length_take];omega
 have hpl:(A8 n k).length≤100:=by unfold A8;rw [List.length_drop];omega
 have hfin:∀ (x s2 w p:List UInt8) (r:PV) (fs:List Fact) (b:Bool),decide (n < 0)=b→okR (if b then .atom 9 else .atom 3) (callF PG (fOrc noOwn (F3 b++(fs++Ft))) 10 Dn [.agg [nI 3, .atom 0,nI k, .str []]] [])=true→x.length≤1000→FactsOk PG (nuL (Dh n x s2 w p)) fs→x=Aa n k++46::Dk n k →
   Ev PG Dn [vP (3,n,k,[])] (.str (Ab n++Aa n k++46::Dk n k)):=fun x s2 w p r fs b hb hkk hx hfs hxe=>by
  have hA:=Pg hn x s2 w p
  rw [hb] at hA
  rw [List.append_assoc,← hxe]
  cases b with
  | true =>
   rw [show Ab n=[45] from if_neg (by have:=of_decide_eq_true hb;omega)]
   exact Ev.facts (nu:=nuL (Dh n x s2 w p)) (args:=[.agg [nI 3, .atom 0,nI k, .str []]]) prog_ok (nuL_okB rfl) (okR_eq hkk) (FactsOk.append hA (FactsOk.append hfs (J1 x s2 w p hx))) rfl rfl
  | false =>
   rw [show Ab n=[] from if_pos (by have:=of_decide_eq_false hb;omega)]
   exact Ev.facts (nu:=nuL (Dh n x s2 w p)) (args:=[.agg [nI 3, .atom 0,nI k, .str []]]) prog_ok (nuL_okB rfl) (okR_eq hkk) (FactsOk.append hA (FactsOk.append hfs (J1 x s2 w p hx))) rfl rfl
 by_cases h0:k=0
 ·subst h0
  have hw:Aa n 0=Lib.decDigits n.natAbs:=by
   rw [E9];unfold Aa Af
   rw [Nat.sub_zero,List.take_length]
  refine hfin (Lib.decDigits n.natAbs++[46,48]) [] [] [] .nilptr K4 _ rfl (bl_all P6 _) (by simp;omega) ⟨Ac (l:=Lib.decDigits n.natAbs) (m:=[46,48]) rfl rfl (by simp;omega) rfl rfl,trivial⟩ (by rw [hw];rfl)
 ·obtain ⟨k,rfl⟩:∃ j,k=j+1:=⟨k - 1,by omega⟩
  obtain ⟨L,hL⟩:∃ j,(Lib.decDigits n.natAbs).length=j+1:=⟨(Lib.decDigits n.natAbs).length - 1,by omega⟩
  have hs2:Af n (k+1)=Bg (k+1+1 - (L+1))++Lib.decDigits n.natAbs:=by
   rw [← hL];exact Jl _ _ (by omega)
  have hlen:(Af n (k+1)).length=k+1+1 - (L+1)+(L+1):=by rw [hs2,List.length_append,hL];simp [Bg]
  have hkk:=List.all_eq_true.1 (List.all_eq_true.1 (bl_all P3 (decide (n < 0))) k (by rw [List.mem_range];omega)) L (by rw [List.mem_range];omega)
  refine hfin (Aa n (k+1)++[46]++A8 n (k+1)) (Af n (k+1)) (Aa n (k+1)) (A8 n (k+1)) .nilptr (Lm (k+1) (L+1)) _ rfl hkk (by simp;omega) ?_ (by unfold Dk;rw [if_neg (by omega)];simp)
  have hw:(Af n (k+1)).take (k+1+1 - (L+1)+(L+1) - (k+1))=Aa n (k+1):=by unfold Aa;rw [hlen]
  have hp:(Af n (k+1)).drop (k+1+1 - (L+1)+(L+1) - (k+1))=A8 n (k+1):=by unfold A8;rw [hlen]
  exact ⟨I9 (n:=((L+1:Nat):Int)) rfl (by rw [hL]) rfl rfl,fprim (Ni (by omega)) rfl rfl rfl,Ac (l:=Bg (k+1+1 - (L+1))) (m:=Lib.decDigits n.natAbs) rfl rfl (by simp [Bg];omega) (by rw [← hs2];rfl) rfl,I9 (s:=Af n (k+1)) (n:=((k+1+1 - (L+1)+(L+1):Nat):Int)) rfl (by rw [hlen]) rfl rfl,
   D9 (s:=Af n (k+1)) rfl rfl (by omega) hw rfl rfl,Ac (l:=Aa n (k+1)) (m:=[46]) rfl rfl (by simp;omega) rfl rfl,Ey (s:=Af n (k+1)) rfl rfl (by omega) hp rfl rfl,Ac (l:=Aa n (k+1)++[46]) (m:=A8 n (k+1)) rfl rfl (by simp;omega) rfl rfl,trivial⟩
theorem N6 (hn : -1000000000000000 < n∧n < 1000000000000000) (hk:k≤6):Ev PG Aq [vP (3,n,k,[])] (.str (Ab n++Aa n k++46::Dk n k)) :=
 Ev.facts (nu:=nuL [nI n,nI k, .str (Ab n++Aa n k++46::Dk n k)]) (args:=[.agg [nI 3, .atom 0, .atom 1, .str []]]) prog_ok (nuL_okB rfl) (okR_eq Rf) ⟨fprim (L9 hn hk) rfl rfl rfl,trivial⟩ rfl rfl
end
open Go Go.RowKit
theorem Iu (c:UInt8):∀ {w:List UInt8},c ∉ w→Lib.index w [c] = -1
 | [],_=>rfl
 | d::l,h=>by
  simp only [List.mem_cons,not_or] at h
  have hc:([c]:List UInt8).isPrefixOf (d::l)=false:=by
   simp only [List.isPrefixOf,Bool.and_true,beq_eq_false_iff_ne]
   exact h.1
  unfold Lib.index
  rw [hc,Iu c h.2]
  rfl
theorem Im (c:UInt8):∀ {w:List UInt8} (p:List UInt8),c ∉ w→Lib.index (w++c::p) [c]=w.length
 | [],p,_=>by
  show Lib.index (c::p) [c]=0
  unfold Lib.index
  simp [List.isPrefixOf]
 | d::l,p,h=>by
  simp only [List.mem_cons,not_or] at h
  have hc:([c]:List UInt8).isPrefixOf (d::(l++c::p))=false:=by
   simp only [List.isPrefixOf,Bool.and_true,beq_eq_false_iff_ne]
   exact h.1
  show Lib.index (d::(l++c::p)) [c]=_
  unfold Lib.index
  rw [hc,Im c p h.2]
  have:((l.length:Int)==-1)=false:=by rw [beq_eq_false_iff_ne];omega
  simp [this]
theorem G4:∀ (a b:List UInt8),An (a++b)=An a++An b
 | [],b=>rfl
 | c::a,b=>by
  by_cases h:c=39
  ·subst h
   show An (39::(a++b))=_
   rw [Fe,Fe,G4 a b];rfl
  ·show An (c::(a++b))=_
   rw [Ff h,Ff h,G4 a b];rfl
theorem Gz:∀ {w:List UInt8},(39:UInt8) ∉ w→An w=w
 | [],_=>rfl
 | c::w,h=>by
  simp only [List.mem_cons,not_or] at h
  rw [Ff (fun e=>h.1 e.symm),Gz h.2]
theorem Gm:∀ (k:Nat) (s:List UInt8),s.length≤k→Lib.replaceK [39] [39,39] (Lib.count s [39]) s=An s∧Lib.count s [39]≤s.length
 | 0,s,h=>by
  obtain rfl:s=[]:=List.length_eq_zero_iff.1 (by omega)
  exact ⟨by rw [Lib.count_miss rfl];rfl,by rw [Lib.count_miss rfl];simp⟩
 | k+1,s,h=>by
  by_cases hm:(39:UInt8)∈s
  ·obtain ⟨w,r,hs,hw⟩:=List.eq_append_cons_of_mem hm
   have hi:=Im 39 r hw
   have hl:s.length=w.length+(r.length+1):=by rw [hs];simp
   have hd:s.drop (w.length+([39]:List UInt8).length)=r:=by rw [hs];simp
   have ht:s.take w.length=w:=by rw [hs];simp
   rw [← hs] at hi
   obtain ⟨h1,h2⟩:=Gm k r (by omega)
   have hc:=Lib.count_hit (s:=s) (sub:=[39]) (by simp) hi
   rw [hd] at hc
   refine ⟨?_,by omega⟩
   rw [hc,Nat.add_comm,Lib.replaceK_hit _ _ _ _ _ hi,hd,ht,h1,hs,G4,Gz hw,Fe]
   simp
  ·have hi:=Iu 39 hm
   rw [Lib.count_miss hi,Gz hm]
   exact ⟨rfl,Nat.zero_le _⟩
theorem Lt (s:List UInt8):Lib.replaceAll s [39] [39,39]=An s:=by
 unfold Lib.replaceAll Lib.replace
 rw [if_neg (by decide)]
 unfold Lib.replaceNum
 rw [if_pos (.inl (by decide))]
 exact (Gm s.length s (Nat.le_refl _)).1
open Go Go.RowKit
theorem Re:okR (.atom 3) (callF PG (fOrc noOwn [.prim F8 [.atom 0, .str [39], .str [39,39]] (.atom 1), .op (.bin .add ty_string) [.str [39], .atom 1] (.atom 2), .op (.bin .add ty_string) [.atom 2, .str [39]] (.atom 3)]) 10 Aq [.agg [nI 4,nI 0,nI 0, .atom 0]] [])=true:=by kernel_rfl
theorem Ji:∀ l:List UInt8,(An l).length≤2*l.length
 | []=>by simp [An]
 | c::l=>by
  have:=Ji l
  by_cases h:c=39
  ·subst h;rw [Fe];simp;omega
  ·rw [Ff h];simp;omega
theorem Nb {l:List UInt8} (hl:l.length≤40):Ev PG Aq [vP (4,0,0,l)] (.str (39::(An l++[39]))):=by
 have h:=If l [39] [39,39] (by omega) (by decide) (by
  have h2:=(Gm l.length l (Nat.le_refl _)).2
  have e:Lib.countB ⟨l.toArray⟩ ⟨([39]:List UInt8).toArray⟩=Lib.count l [39]:=rfl
  rw [e];simp only [List.length_cons,List.length_nil];omega)
 rw [Lt] at h
 have he:=Ji l
 exact Ev.facts (nu:=nuL [.str l, .str (An l), .str ([39]++An l), .str ([39]++An l++[39])]) (args:=[.agg [nI 4,nI 0,nI 0, .atom 0]]) prog_ok (nuL_okB rfl) (okR_eq Re) ⟨fprim h rfl rfl rfl,Ac (l:=[39]) (m:=An l) rfl rfl (by simp;omega) rfl rfl,Ac (l:=[39]++An l) (m:=[39]) rfl rfl (by simp;omega) rfl rfl,trivial⟩ rfl rfl
end Go.Proofs.YtdlkibeljkapeaaGreatDoor.Den
