-- Written by drive.py and pack.py (programs of this proof's own) through the kit's printer; not trusted: Lean checks it.
import Derived.Test.YtdlkibeljkapeaaGreatDoorCSqlLong2
namespace Go.Proofs.YtdlkibeljkapeaaGreatDoor.Den
open Go Go.RowKit
theorem fn_of {P:Program} (g:FuncId) (h:(match P.funcs[g]? with|some fn=>!(fn.name == "runtime.NumGoroutine")&&fn.body.isSome|none=>false)=true):∃ fn,P.funcs[g]? = some fn∧(fn.name == "runtime.NumGoroutine")=false∧fn.body.isSome=true:=by
 split at h
 ·rename_i fn hf
  simp only [Bool.and_eq_true,Bool.not_eq_true'] at h
  exact ⟨fn,hf,h.1,h.2⟩
 ·cases h
theorem below_drewN (w:World) (n:Nat):Below w.heap.size w (w.drewN n):=⟨rfl,rfl,rfl,Nat.le_refl _,fun _ _=>rfl⟩
theorem below_grow (w:World) (k:Nat) (os:Array Obj):Below w.heap.size w (Sort.grow (w.drewN k) os):=by
 refine ⟨rfl,rfl,rfl,by show w.heap.size≤(w.heap++os).size;rw [Array.size_append];omega,fun i hi=>?_⟩
 have h:i < (w.drewN k).heap.size:=hi
 show ((w.drewN k).heap++os)[i]? = _
 rw [Array.getElem?_append_left h];rfl
theorem cell_maxLen {X:Map} {w:World} (h:X.Ok w):∃ m,w.cell? ⟨1,0,none⟩=some (.int .i64 m):=by
 obtain ⟨arr,e,fr,h1,_,_,h4⟩:=h.2 1 rfl
 obtain ⟨m,rfl⟩:=h4
 exact ⟨m,by simp [World.cell?,h1]⟩
theorem tab_pow10 {X:Map} {w:World} (h:X.Ok w):Lib.TabIs PG w "internal/strconv.uint64pow10" .u64 Lib.pow10Tab:=by
 obtain ⟨arr,e,fr,h1,_,_,h4⟩:=h.2 0 rfl
 have h4':arr=(Lib.pow10Tab.map fun z=>Value.int .u64 z).toArray:=h4
 have hg:PG.globalNamed "internal/strconv.uint64pow10" = some 0:=by kernel_rfl
 unfold Lib.TabIs World.var?
 rw [hg]
 simp only [Option.bind_some,h1,h4']
abbrev nI (n:Int):PV:=.int .i64 n
theorem R_tup3 (X:Map) (a b:List UInt8) (c:Bool):R X (.tup [.str a, .str b, .bool c]) (.tuple #[.string ⟨a.toArray⟩, .string ⟨b.toArray⟩, .bool c]):=by
 refine .tup _ _ rfl fun j p hp=>?_
 match j,hp with
 | 0,hp=>cases hp;exact .str ⟨a.toArray⟩
 | 1,hp=>cases hp;exact .str ⟨b.toArray⟩
 | 2,hp=>cases hp;exact .bool c
theorem cut_ev (s sep:List UInt8) (hs:s.length < 4294967281):Ev PG f_strings_Cut [.str s, .str sep] (.tup [.str (Lib.cut s sep).1, .str (Lib.cut s sep).2.1, .bool (Lib.cut s sep).2.2]):=by
 refine Ev.ofCalls (fn_of _ (by kernel_rfl)) fun X w vs a1 a2 a3=>?_
 obtain ⟨u,v,rfl,r1,r2⟩:=vs_two a1 a2
 rw [r1.str_inv,r2.str_inv]
 obtain ⟨m,hm⟩:=cell_maxLen a3
 refine (Go.Proofs.Tryz.strings_Cut ⟨s.toArray⟩ ⟨sep.toArray⟩ m w (by show s.toArray.size < _;simpa using hs) hm).mono ?_
 rintro e w' ⟨he,n,rfl⟩
 exact ⟨⟨_,he,R_tup3 X _ _ _⟩,below_drewN w n⟩
theorem itoa_ev (n:Int) (h : -9223372036854775808≤n∧n≤9223372036854775807):Ev PG f_strconv_Itoa [nI n] (.str (Lib.itoa n)):=by
 refine Ev.ofCalls (fn_of _ (by kernel_rfl)) fun X w vs a1 a2 a3=>?_
 obtain ⟨u,rfl,r1⟩:=vs_one a1 a2
 rw [r1.int_inv]
 refine (Go.Proofs.Tryz.strconv_Itoa n h.1 h.2 w (tab_pow10 a3)).mono ?_
 rintro e w' ⟨he,k,os,rfl⟩
 exact ⟨⟨_,he, .str ⟨(Lib.itoa n).toArray⟩⟩,below_grow w k os⟩
end Go.Proofs.YtdlkibeljkapeaaGreatDoor.Den
namespace Go.Proofs.YtdlkibeljkapeaaGreatDoor.Den
open Go Go.RowKit
def cutF (s:List UInt8):Fact:=.prim f_strings_Cut [.str s, .str [46]] (.tup [.str (Lib.cut s [46]).1, .str (Lib.cut s [46]).2.1, .bool (Lib.cut s [46]).2.2])
def itoaF (p:Int × List UInt8):Fact:=.prim f_strconv_Itoa [nI p.1] (.str p.2)
end Go.Proofs.YtdlkibeljkapeaaGreatDoor.Den
namespace Go.Proofs.YtdlkibeljkapeaaGreatDoor.Den
open Go Go.RowKit
abbrev oI (op:BinOp) (x y r:PV):Fact:=.op (.bin op ty_int) [x,y] r
abbrev nB (c:UInt8):PV:=.int .u8 c.toNat
theorem fprim {nu:Nat→PV} {g:FuncId} {args:List PV} {r:PV} {a:List PV} {b:PV} (h:Ev PG g a b) (h1:args.map (subD nu)=a) (h2:subD nu r=b) (h3:oneB nu r=true):FactOk PG nu (.prim g args r):=⟨by rw [h1,h2];exact h,h3⟩
theorem u_string:PG.underlying ty_string=some .string:=by kernel_rfl
theorem fStrLen {nu:Nat→PV} {x r:PV} {s:List UInt8} (h1:subD nu x = .str s) (h2:subD nu r=nI s.length) (h3:oneB nu r=true):FactOk PG nu (.op (.len ty_string) [x] r):=by
 refine ⟨?_,h3⟩
 show lenP PG ty_string (subD nu x)=some (subD nu r)
 rw [h1,h2]
 unfold lenP
 rw [u_string]
theorem fStrIx {nu:Nat→PV} {x i r:PV} {s:List UInt8} {n:Nat} {c:UInt8} (h1:subD nu x = .str s) (h2:subD nu i=nI n) (h3:s[n]? = some c) (h4:subD nu r=nB c) (h5:oneB nu r=true):FactOk PG nu (.op (.index ty_string) [x,i] r):=by
 refine ⟨?_,h5⟩
 show indexP PG ty_string (subD nu x) (subD nu i)=some (subD nu r)
 rw [h1,h2,h4]
 unfold indexP
 rw [u_string]
 show (if (0:Int)≤(n:Int) then (match s[((n:Nat):Int).toNat]? with|some b=>some (PV.int .u8 b.toNat)|none=>none) else none)=_
 rw [if_pos (by omega),Int.toNat_natCast,h3]
theorem w6_id {n:Int} (h0 : -9223372036854775808≤n) (h1:n≤9223372036854775807):IntKind.i64.wrap n=n:=Go.IntWalk.i64_in _ ⟨h0,h1⟩
def paT (g:FuncId):List (Nat × PV):=[(0, .atom 0),(1, .atom 1),(2, .fn g [] [])]
def paA (b:Bool):List Fact:=[.op (.len ty_string) [.atom 0] (.atom 2),oI .lss (.atom 1) (.atom 2) (.bool b)]
def paB (g:FuncId) (q:Bool):List Fact:=paA true++[.op (.index ty_string) [.atom 0, .atom 1] (.atom 3), .prim g [.atom 3] (.bool q),oI .add (.atom 1) (nI 1) (.atom 4)]
noncomputable abbrev paRun (g:FuncId) (fs:List Fact):Option (Ex × St):=execN PG (fOrc noOwn fs) (callF PG (fOrc noOwn fs) 5) ((fOrc noOwn fs).loop f_sql_past) 5 3 (loopAt PG f_sql_past 1) ⟨paT g,[]⟩
theorem pa_lone:loneB PG f_sql_past 1=true:=by kernel_rfl
def kindsL:List FuncId:=[f_sql_blank,f_sql_inner,f_sql_digit,f_sql_hex]
theorem pa_a:(kindsL.all fun g=>runsB (paRun g (paA false)) (.exit 0) [(1, .atom 1)] [])=true:=by kernel_rfl
theorem pa_b:(kindsL.all fun g=>runsB (paRun g (paB g false)) (.exit 0) [(1, .atom 1)] [])=true:=by kernel_rfl
theorem pa_c:(kindsL.all fun g=>runsB (paRun g (paB g true)) .normal [(0, .atom 0),(1, .atom 4),(2, .fn g [] [])] [])=true:=by kernel_rfl
theorem pa_f:(kindsL.all fun g=>okR (.atom 2) (callF PG (fOrc noOwn [.loop f_sql_past 1 [(0, .atom 0),(1, .atom 1),(2, .fn g [] [])] [] (.exit 0) [(1, .atom 2)] []]) 5 f_sql_past [.atom 0, .atom 1, .fn g [] []] []))=true:=by kernel_rfl
set_option maxRecDepth 20000 in
theorem pa_loop {g:FuncId} (hg:g∈kindsL) {p:UInt8→Bool} (hp:∀ c,Ev PG g [nB c] (.bool (p c))) {s:List UInt8} (hs:s.length≤9223372036854775806):∀ (l:List UInt8) (i:Nat),s.drop i=l→i≤s.length →
  RunsR PG (ntOf PG f_sql_past) (loopAt PG f_sql_past 1) [(0, .str s),(1,nI i),(2, .fn g [] [])] [] (.exit 0) [(1,nI (i+(l.takeWhile p).length:Nat))] []:=by
 intro l
 induction l with
 | nil =>
  intro i hi h1
  have hlen:s.length≤i:=by
   have:=congrArg List.length hi
   simp at this;omega
  have hge:¬ ((i:Nat):Int) < (s.length:Int):=by omega
  refine RunsR.leave ?_ (fun h=>by cases h)
  exact RunsP.chk (nu:=nuL [.str s,nI i,nI s.length]) prog_ok (nuL_okB rfl) (T:=paT g) (s:=[]) (T':=[(1, .atom 1)]) (s':=[]) pa_lone (List.all_eq_true.1 pa_a g hg)
   ⟨fStrLen rfl rfl rfl,fCmp (c:=false) (a:=i) (b:=s.length) rfl rfl rfl (by simp only [intP];rw [decide_eq_false hge]) (by decide) rfl,trivial⟩ rfl rfl rfl
 | cons c l ih =>
  intro i hi h1
  have hx:s[i]? = some c:=by
   have:=congrArg (fun z=>z[0]?) hi
   simpa using this
  have hil:i < s.length:=(List.getElem?_eq_some_iff.1 hx).1
  have hl:s.drop (i+1)=l:=by
   have:=congrArg List.tail hi
   simpa using this
  have hlt:((i:Nat):Int) < (s.length:Int):=by omega
  have e4:IntKind.i64.wrap ((i:Int)+1)=((i+1:Nat):Int):=by rw [w6_id (by omega) (by omega)];omega
  have hf:∀ q,p c=q→FactsOk PG (nuL [.str s,nI i,nI s.length,nB c,nI (i+1:Nat)]) (paB g q):=fun q hq=>by
   have hpc:=hp c
   rw [hq] at hpc
   unfold paB paA
   exact ⟨fStrLen rfl rfl rfl,fCmp (c:=true) (a:=i) (b:=s.length) rfl rfl rfl (by simp only [intP];rw [decide_eq_true hlt]) (by decide) rfl,fStrIx rfl rfl hx rfl rfl,fprim hpc rfl rfl rfl,fInt (a:=i) (b:=1) rfl rfl rfl (by simp only [intP];rw [e4]) (by decide) rfl,trivial⟩
  cases hq:p c with
  | false =>
   have e:((c::l).takeWhile p).length=0:=by simp [hq]
   rw [e]
   refine RunsR.leave ?_ (fun h=>by cases h)
   exact RunsP.chk (nu:=nuL [.str s,nI i,nI s.length,nB c,nI (i+1:Nat)]) prog_ok (nuL_okB rfl) (T:=paT g) (s:=[]) (T':=[(1, .atom 1)]) (s':=[]) pa_lone (List.all_eq_true.1 pa_b g hg) (hf false hq) rfl rfl rfl
  | true =>
   have e:i+((c::l).takeWhile p).length=i+1+(l.takeWhile p).length:=by simp [hq];omega
   rw [e]
   refine RunsR.round ?_ (ih (i+1) hl (by omega))
   exact RunsP.chk (nu:=nuL [.str s,nI i,nI s.length,nB c,nI (i+1:Nat)]) prog_ok (nuL_okB rfl) (T:=paT g) (s:=[]) (T':=[(0, .atom 0),(1, .atom 4),(2, .fn g [] [])]) (s':=[]) pa_lone (List.all_eq_true.1 pa_c g hg) (hf true hq) rfl rfl rfl
theorem past_ev {g:FuncId} (hg:g∈kindsL) {p:UInt8→Bool} (hp:∀ c,Ev PG g [nB c] (.bool (p c))) {s:List UInt8} (hs:s.length≤9223372036854775806) (i:Nat) (hi:i≤s.length) :
  Ev PG f_sql_past [.str s,nI i, .fn g [] []] (nI (i+((s.drop i).takeWhile p).length:Nat)) :=
 Ev.facts (nu:=nuL [.str s,nI i,nI (i+((s.drop i).takeWhile p).length:Nat)]) prog_ok (nuL_okB rfl) (okR_eq (List.all_eq_true.1 pa_f g hg)) ⟨fLoopOk pa_lone (Nat.le_refl _) (pa_loop hg hp hs (s.drop i) i rfl hi) rfl,trivial⟩ rfl rfl
end Go.Proofs.YtdlkibeljkapeaaGreatDoor.Den
namespace Go.Proofs.YtdlkibeljkapeaaGreatDoor.Den
open Go Go.RowKit
def isBlank (c:UInt8):Bool:=c==32||c==10
def isSmall (c:UInt8):Bool:=decide (97≤c.toNat)&&decide (c.toNat≤122)
def isDigit (c:UInt8):Bool:=decide (48≤c.toNat)&&decide (c.toNat≤57)
def isInner (c:UInt8):Bool:=isSmall c||(isDigit c||c==95)
noncomputable def byteB (f:FuncId) (p:UInt8→Bool):Bool:=(List.range 256).all fun c=>okR (.bool (p (UInt8.ofNat c))) (callF PG noOrc 5 f [.int .u8 (c:Nat)] [])
theorem byte_ev {f:FuncId} {p:UInt8→Bool} (h:byteB f p=true) (c:UInt8):Ev PG f [nB c] (.bool (p c)):=by
 have hk:=List.all_eq_true.1 h c.toNat (by rw [List.mem_range];exact c.toNat_lt)
 have e:UInt8.ofNat c.toNat=c:=by simp
 rw [e] at hk
 exact Ev.ofD (nu:=nuL []) (args:=[nB c]) prog_ok (nuL_okB rfl) (noOrc_ok PG _) (okR_eq hk) (fun p hp=>by simp at hp;subst hp;exact ⟨rfl,rfl⟩) rfl rfl
theorem blank_ev:∀ c,Ev PG f_sql_blank [nB c] (.bool (isBlank c)):=byte_ev (by kernel_rfl)
theorem small_ev:∀ c,Ev PG f_sql_small [nB c] (.bool (isSmall c)):=byte_ev (by kernel_rfl)
theorem digit_ev:∀ c,Ev PG f_sql_digit [nB c] (.bool (isDigit c)):=byte_ev (by kernel_rfl)
theorem inner_ev:∀ c,Ev PG f_sql_inner [nB c] (.bool (isInner c)):=byte_ev (by kernel_rfl)
def pastN (p:UInt8→Bool) (s:List UInt8) (i:Nat):Nat:=i+((s.drop i).takeWhile p).length
theorem past_blank {s:List UInt8} (hs:s.length≤9223372036854775806) (i:Nat) (hi:i≤s.length):Ev PG f_sql_past [.str s,nI i, .fn f_sql_blank [] []] (nI (pastN isBlank s i)):=past_ev (by simp [kindsL]) blank_ev hs i hi
theorem past_inner {s:List UInt8} (hs:s.length≤9223372036854775806) (i:Nat) (hi:i≤s.length):Ev PG f_sql_past [.str s,nI i, .fn f_sql_inner [] []] (nI (pastN isInner s i)):=past_ev (by simp [kindsL]) inner_ev hs i hi
theorem same_str (l m:List UInt8):strP .eql l m=some (.bool (l==m)):=rfl
theorem fStrEq {nu:Nat→PV} {op:BinOp} {x y r:PV} {l m:List UInt8} {p:PV} (h1:subD nu x = .str l) (h2:subD nu y = .str m) (h:strP op l m=some p) (h3:subD nu r=p) (h4:oneB nu r=true):FactOk PG nu (.op (.bin op ty_string) [x,y] r):=by
 refine ⟨?_,h4⟩
 show binP PG op ty_string (subD nu x) (subD nu y)=some (subD nu r)
 rw [h1,h2,h3,← h]
 cases op<;>rfl
def coF (i:Nat) (b:Bool):List Fact:=(List.range (if b then i+1 else i)).map fun j=>.op (.bin .eql ty_string) [.atom 0, .str (keysL.getD j [])] (.bool (decide (j=i)))
def coF' (i:Nat) (b:Bool):List Fact:=(List.range (if b then i+1 else i)).map fun j=>.op (.bin .eql ty_string) [.str (keysL.getD j []), .atom 0] (.bool (decide (j=i)))
theorem co_k:((List.range 33).all fun i=>okR (.bool true) (callF PG (fOrc noOwn (coF i true++coF' i true)) 40 f_slices_Contains_sl_string_string [strsP keysL, .atom 0] []))=true:=by kernel_rfl
theorem co_k0:okR (.bool false) (callF PG (fOrc noOwn (coF 33 false++coF' 33 false)) 40 f_slices_Contains_sl_string_string [strsP keysL, .atom 0] [])=true:=by kernel_rfl
end Go.Proofs.YtdlkibeljkapeaaGreatDoor.Den
namespace Go.Proofs.YtdlkibeljkapeaaGreatDoor.Den
open Go Go.RowKit
theorem keysL_len:keysL.length=33:=by decide +kernel
theorem coF_ok {w:List UInt8} {i:Nat} {b:Bool} (h:∀ j,j < (if b then i+1 else i)→(keysL.getD j []==w)=decide (j=i)):FactsOk PG (nuL [.str w]) (coF i b++coF' i b):=by
 refine FactsOk.append (FactsOk.of fun f hf=>?_) (FactsOk.of fun f hf=>?_)
 ·obtain ⟨j,hj,rfl⟩:=List.mem_map.1 hf
  rw [List.mem_range] at hj
  have:=h j hj
  refine fStrEq (l:=w) (m:=keysL.getD j []) rfl rfl (same_str _ _) ?_ rfl
  show PV.bool _=_
  rw [← this]
  congr 1
  exact Bool.eq_iff_iff.2 (by simp only [beq_iff_eq];exact eq_comm)
 ·obtain ⟨j,hj,rfl⟩:=List.mem_map.1 hf
  rw [List.mem_range] at hj
  have:=h j hj
  refine fStrEq (l:=keysL.getD j []) (m:=w) rfl rfl (same_str _ _) ?_ rfl
  show PV.bool _=_
  rw [← this]
theorem contains_ev (w:List UInt8):Ev PG f_slices_Contains_sl_string_string [strsP keysL, .str w] (.bool (keysL.contains w)):=by
 by_cases hc:∃ i,i < 33∧keysL.getD i []=w
 ·obtain ⟨i,hi,hw⟩:∃ i,(i < 33∧keysL.getD i []=w)∧∀ j,j < i→¬ keysL.getD j []=w:=by
   obtain ⟨i,hi⟩:=hc
   induction i using Nat.strongRecOn with
   | _ i ih =>
    by_cases hm:∃ j,j < i∧keysL.getD j []=w
    ·obtain ⟨j,h1,h2⟩:=hm;exact ih j h1 ⟨by omega,h2⟩
    ·exact ⟨i,hi,fun j h1 h2=>hm ⟨j,h1,h2⟩⟩
  have e:keysL.contains w=true:=by
   rw [List.contains_iff_mem,← hi.2,List.getD_eq_getElem?_getD,List.getElem?_eq_getElem (by rw [keysL_len];exact hi.1)]
   exact List.getElem_mem _
  rw [e]
  refine Ev.facts (nu:=nuL [.str w]) (args:=[strsP keysL, .atom 0]) prog_ok (nuL_okB rfl) (okR_eq (List.all_eq_true.1 co_k i (by rw [List.mem_range];exact hi.1))) (coF_ok fun j hj=>?_) rfl rfl
  rw [if_pos rfl] at hj
  by_cases hji:j=i
  ·subst hji;rw [hi.2];simp
  ·have:=hw j (by omega)
   rw [decide_eq_false hji];exact beq_eq_false_iff_ne.2 this
 ·have e:keysL.contains w=false:=by
   rw [Bool.eq_false_iff]
   intro h
   rw [List.contains_iff_mem] at h
   obtain ⟨i,hi,hw⟩:=List.getElem_of_mem h
   exact hc ⟨i,by rw [keysL_len] at hi;exact hi,by rw [List.getD_eq_getElem?_getD,List.getElem?_eq_getElem hi,Option.getD_some,hw]⟩
  rw [e]
  refine Ev.facts (nu:=nuL [.str w]) (args:=[strsP keysL, .atom 0]) prog_ok (nuL_okB rfl) (okR_eq co_k0) (coF_ok fun j hj=>?_) rfl rfl
  have hj':j < 33:=by simpa using hj
  have h1:¬ keysL.getD j []=w:=fun h=>hc ⟨j,hj',h⟩
  have h2:¬ j=33:=by omega
  rw [decide_eq_false h2];exact beq_eq_false_iff_ne.2 h1
end Go.Proofs.YtdlkibeljkapeaaGreatDoor.Den
namespace Go.Proofs.YtdlkibeljkapeaaGreatDoor.Den
open Go Go.RowKit
def sgA (k a w v0 v1 v2 v3 e:PV):PV:=.agg [k,a,w,v0,v1,v2,v3,e]
def sgP (k at_:Int) (w:List UInt8) (e:Int):PV:=sgA (nI k) (nI at_) (.str w) (nI 0) (nI 0) (nI 0) (.str []) (nI e)
theorem fSlice {nu:Nat→PV} {x lo hi r:PV} {s w:List UInt8} {i j:Nat} (h1:subD nu x = .str s) (h2:subD nu lo=nI i) (h3:subD nu hi=nI j) (hij:i≤j∧j≤s.length) (hw:(s.take j).drop i=w) (h4:subD nu r = .str w) (h5:oneB nu r=true):FactOk PG nu (.op (.slice ty_string true true) [x,lo,hi] r):=by
 refine ⟨?_,h5⟩
 show sliceP PG ty_string (subD nu x) (some (subD nu lo)) (some (subD nu hi))=some (subD nu r)
 rw [h1,h2,h3,h4]
 unfold sliceP
 rw [u_string]
 have e1:optBound (some (nI j)) s.length s.length=some j:=by
  show (if 0≤(j:Int)∧(j:Int)≤(s.length:Int) then some ((j:Int).toNat) else none)=_
  rw [if_pos (by omega),Int.toNat_natCast]
 have e2:optBound (some (nI i)) j 0=some i:=by
  show (if 0≤(i:Int)∧(i:Int)≤(j:Int) then some ((i:Int).toNat) else none)=_
  rw [if_pos (by omega),Int.toNat_natCast]
 simp only [boundsP,e1,e2,hw]
theorem fSliceTo {nu:Nat→PV} {x lo r:PV} {s w:List UInt8} {i:Nat} (h1:subD nu x = .str s) (h2:subD nu lo=nI i) (hij:i≤s.length) (hw:s.drop i=w) (h4:subD nu r = .str w) (h5:oneB nu r=true):FactOk PG nu (.op (.slice ty_string true false) [x,lo] r):=by
 refine ⟨?_,h5⟩
 show sliceP PG ty_string (subD nu x) (some (subD nu lo)) none=some (subD nu r)
 rw [h1,h2,h4]
 unfold sliceP
 rw [u_string]
 have e1:optBound none s.length s.length=some s.length:=rfl
 have e2:optBound (some (nI i)) s.length 0=some i:=by
  show (if 0≤(i:Int)∧(i:Int)≤(s.length:Int) then some ((i:Int).toNat) else none)=_
  rw [if_pos (by omega),Int.toNat_natCast]
 simp only [boundsP,e1,e2,List.take_length,hw]
theorem fU8 {nu:Nat→PV} {op:BinOp} {x y r:PV} {a b:Int} {p:PV} (hx:subD nu x = .int .u8 a) (hy:subD nu y = .int .u8 b) (h:intP op .u8 a b=some p) (hr:subD nu r=p) (hs:op≠.shl∧op≠.shr) (h1:oneB nu r=true):FactOk PG nu (.op (.bin op ty_uint8) [x,y] r):=by
 refine ⟨?_,h1⟩
 show binP PG op ty_uint8 (subD nu x) (subD nu y)=some (subD nu r)
 rw [hx,hy,hr,← h]
 cases op<;>first|rfl|exact absurd rfl hs.1|exact absurd rfl hs.2
theorem past_bd (p:UInt8→Bool) (s:List UInt8) (i:Nat) (hi:i≤s.length):i≤pastN p s i∧pastN p s i≤s.length:=by
 unfold pastN
 have h:(s.drop i).takeWhile p <+: s.drop i:=List.takeWhile_prefix p
 have:=h.length_le
 rw [List.length_drop] at this
 omega
theorem past_take (p:UInt8→Bool) (s:List UInt8) (i:Nat):(s.take (pastN p s i)).drop i=(s.drop i).takeWhile p:=by
 unfold pastN
 rw [List.drop_take,Nat.add_sub_cancel_left]
 have h:(s.drop i).takeWhile p <+: s.drop i:=List.takeWhile_prefix p
 exact (List.prefix_iff_eq_take.1 h).symm
def leF (b q : Bool) : List Fact :=
  [.prim f_sql_past [.atom 0, .atom 1, .fn f_sql_inner [] []] (.atom 2), .op (.slice ty_string true true) [.atom 0, .atom 1, .atom 2] (.atom 3), .prim f_sql_keys [] (strsP keysL), .prim f_slices_Contains_sl_string_string [strsP keysL, .atom 3] (.bool b),
   .op (.len ty_string) [.atom 3] (.atom 4), oI .gtr (.atom 4) (nI 12) (.bool q)]
def sg0 (a:PV):PV:=sgA (nI 0) a (.str []) (nI 0) (nI 0) (nI 0) (.str []) (nI 0)
def leR (b q:Bool):PV:=.tup [sgA (nI (if b then 1 else 2)) (.atom 1) (.atom 3) (nI 0) (nI 0) (nI 0) (.str []) (nI (if q then 11 else 0)), .atom 2]
theorem le_k:(bl fun b=>bl fun q=>okR (leR b q) (callF PG (fOrc noOwn (leF b q)) 10 f_sql_letters [.atom 0,sg0 (.atom 1)] []))=true:=by kernel_rfl
def wordAt (s:List UInt8) (i:Nat):List UInt8:=(s.drop i).takeWhile isInner
theorem letters_ev {s:List UInt8} (hs:s.length≤9223372036854775806) (i:Nat) (hi:i≤s.length) :
  Ev PG f_sql_letters [.str s,sgP 0 i [] 0] (.tup [sgP (if keysL.contains (wordAt s i) then 1 else 2) i (wordAt s i) (if 12 < (wordAt s i).length then 11 else 0),nI (pastN isInner s i:Nat)]):=by
 have hb:=past_bd isInner s i hi
 have hk:=okR_eq (bl_all (bl_all le_k (keysL.contains (wordAt s i))) (decide (((wordAt s i).length:Int) > 12)))
 have:=Ev.facts (nu:=nuL [.str s,nI i,nI (pastN isInner s i:Nat), .str (wordAt s i),nI (wordAt s i).length]) prog_ok (nuL_okB rfl) hk
  ⟨fprim (past_inner hs i hi) rfl rfl rfl,fSlice rfl rfl rfl hb (past_take _ _ _) rfl rfl,fprim keys_ev rfl rfl rfl,fprim (contains_ev _) rfl rfl rfl,fStrLen rfl rfl rfl,fCmp rfl rfl rfl rfl (by decide) rfl,trivial⟩ rfl (by cases keysL.contains (wordAt s i)<;>cases decide (((wordAt s i).length:Int) > 12)<;>rfl)
 have e1:(if 12 < (wordAt s i).length then (11:Int) else 0)=if decide (((wordAt s i).length:Int) > 12) then 11 else 0:=by
  by_cases h:12 < (wordAt s i).length
  ·rw [if_pos h,decide_eq_true (by omega)];rfl
  ·rw [if_neg h,decide_eq_false (by omega)];rfl
 rw [e1]
 exact this
end Go.Proofs.YtdlkibeljkapeaaGreatDoor.Den
namespace Go.Proofs.YtdlkibeljkapeaaGreatDoor.Den
open Go Go.RowKit
abbrev V4:=Int × Int × Int × List UInt8
structure Sg where
 k:Int
 a:Int
 w:List UInt8
 v:V4
 e:Int
def Sg.pv (x:Sg):PV:=sgA (nI x.k) (nI x.a) (.str x.w) (nI x.v.1) (nI x.v.2.1) (nI x.v.2.2.1) (.str x.v.2.2.2) (nI x.e)
def v0:V4:=(0,0,0,[])
abbrev bI (op:BinOp) (x:PV) (n:Int) (b:Bool):Fact:=.op (.bin op ty_uint8) [x, .int .u8 n] (.bool b)
def rdB:List Fact:=[.prim f_sql_past [.atom 0, .atom 1, .fn f_sql_blank [] []] (.atom 2), .op (.len ty_string) [.atom 0] (.atom 3),oI .eql (.atom 2) (.atom 3) (.bool false), .op (.index ty_string) [.atom 0, .atom 2] (.atom 4)]
def rdX:Nat→List Fact
 | 0=>[bI .eql (.atom 4) 120 false]
 | 1=>[bI .eql (.atom 4) 120 true,oI .add (.atom 2) (nI 1) (.atom 5),oI .lss (.atom 5) (.atom 3) (.bool false)]
 | _=>[bI .eql (.atom 4) 120 true,oI .add (.atom 2) (nI 1) (.atom 5),oI .lss (.atom 5) (.atom 3) (.bool true), .op (.index ty_string) [.atom 0, .atom 5] (.atom 6),bI .eql (.atom 6) 39 false]
def rdR:PV:=.tup [sgA (.atom 7) (.atom 8) (.atom 9) (.atom 10) (.atom 11) (.atom 12) (.atom 13) (.atom 14), .atom 15]
def rdS:Nat→List Fact
 | 0=>[.prim f_sql_small [.atom 4] (.bool true), .prim f_sql_letters [.atom 0,sg0 (.atom 2)] rdR]
 | 1=>[.prim f_sql_small [.atom 4] (.bool false), .prim f_sql_digit [.atom 4] (.bool true), .prim f_sql_digits [.atom 0,sg0 (.atom 2)] rdR]
 | _=>[.prim f_sql_small [.atom 4] (.bool false), .prim f_sql_digit [.atom 4] (.bool false),bI .eql (.atom 4) 39 true, .prim f_sql_text [.atom 0,sg0 (.atom 2)] rdR]
theorem rd_k:((List.range 3).all fun v=>(List.range 3).all fun w=>okR rdR (callF PG (fOrc noOwn (rdB++(rdX v++rdS w))) 20 f_sql_read [.atom 0, .atom 1] []))=true:=by kernel_rfl
def rdNu (s:List UInt8) (i i':Nat) (c c2:UInt8) (x:Sg) (te:Nat):List PV :=
 [.str s,nI i,nI i',nI s.length,nB c,nI (i'+1:Nat),nB c2,nI x.k,nI x.a, .str x.w,nI x.v.1,nI x.v.2.1,nI x.v.2.2.1, .str x.v.2.2.2,nI x.e,nI te]
theorem u8eq {c:UInt8} {n:Nat} {b:Bool} (hn:n < 256) (h:(c==UInt8.ofNat n)=b):intP .eql .u8 (c.toNat:Int) (n:Int)=some (.bool b):=by
 show some (PV.bool (((c.toNat:Nat):Int)==(n:Int)))=_
 rw [← h]
 congr 2
 refine Bool.eq_iff_iff.2 ?_
 simp only [beq_iff_eq]
 constructor
 ·intro h'
  have h2:c.toNat=n:=by omega
  rw [← h2];simp
 ·intro h'
  rw [h']
  simp only [UInt8.toNat_ofNat']
  omega
theorem read_ev {s:List UInt8} (hs:s.length≤9223372036854775806) (i:Nat) (hi:i≤s.length) {c:UInt8} (hc:s[pastN isBlank s i]? = some c) (hx:c=120→s[pastN isBlank s i+1]? ≠ some 39) {x:Sg} {te:Nat}
  (h:(isSmall c=true∧Ev PG f_sql_letters [.str s,sgP 0 (pastN isBlank s i:Nat) [] 0] (.tup [x.pv,nI te])) ∨
   (isDigit c=true∧Ev PG f_sql_digits [.str s,sgP 0 (pastN isBlank s i:Nat) [] 0] (.tup [x.pv,nI te])) ∨
   (c=39∧Ev PG f_sql_text [.str s,sgP 0 (pastN isBlank s i:Nat) [] 0] (.tup [x.pv,nI te]))):Ev PG f_sql_read [.str s,nI i] (.tup [x.pv,nI te]):=by
 generalize hi':pastN isBlank s i=i' at *
 have hb:=past_bd isBlank s i hi
 rw [hi'] at hb
 have hil:i' < s.length:=(List.getElem?_eq_some_iff.1 hc).1
 have hp:=past_blank hs i hi
 rw [hi'] at hp
 have hne:¬ (i':Int)=(s.length:Int):=by omega
 obtain ⟨c2,hc2⟩:∃ c2:UInt8,(i'+1 < s.length→s[i'+1]? = some c2):=by
  by_cases h1:i'+1 < s.length
  ·exact ⟨s[i'+1],fun _=>List.getElem?_eq_getElem h1⟩
  ·exact ⟨0,fun h=>absurd h h1⟩
 have e5:IntKind.i64.wrap ((i':Int)+1)=((i'+1:Nat):Int):=by rw [w6_id (by omega) (by omega)];omega
 have fB:FactsOk PG (nuL (rdNu s i i' c c2 x te)) rdB:=⟨fprim hp rfl rfl rfl,fStrLen rfl rfl rfl,fCmp (c:=false) (a:=i') (b:=s.length) rfl rfl rfl (by show some (PV.bool ((i':Int)==(s.length:Int)))=_;rw [beq_eq_false_iff_ne.2 hne]) (by decide) rfl,fStrIx rfl rfl hc rfl rfl,trivial⟩
 have fX:∃ v,v < 3∧FactsOk PG (nuL (rdNu s i i' c c2 x te)) (rdX v):=by
  by_cases h1:c=120
  ·subst h1
   by_cases h2:i'+1 < s.length
   ·refine ⟨2,by decide,fU8 (a:=(120:Nat)) (b:=(120:Nat)) rfl rfl (u8eq (c:=120) (n:=120) (b:=true) (by decide) rfl) rfl (by decide) rfl,fInt (a:=i') (b:=1) rfl rfl rfl (by simp only [intP];rw [e5]) (by decide) rfl,
     fCmp (c:=true) (a:=(i'+1:Nat)) (b:=s.length) rfl rfl rfl (by simp only [intP];rw [decide_eq_true (by omega)]) (by decide) rfl,fStrIx (s:=s) (n:=i'+1) (c:=c2) rfl rfl (hc2 h2) rfl rfl,?_,trivial⟩
    have h3:c2≠39:=fun e=>hx rfl (by rw [hc2 h2,e])
    exact fU8 (a:=(c2.toNat:Nat)) (b:=(39:Nat)) rfl rfl (u8eq (c:=c2) (n:=39) (b:=false) (by decide) (beq_eq_false_iff_ne.2 h3)) rfl (by decide) rfl
   ·exact ⟨1,by decide,fU8 (a:=(120:Nat)) (b:=(120:Nat)) rfl rfl (u8eq (c:=120) (n:=120) (b:=true) (by decide) rfl) rfl (by decide) rfl,fInt (a:=i') (b:=1) rfl rfl rfl (by simp only [intP];rw [e5]) (by decide) rfl,
     fCmp (c:=false) (a:=(i'+1:Nat)) (b:=s.length) rfl rfl rfl (by simp only [intP];rw [decide_eq_false (by omega)]) (by decide) rfl,trivial⟩
  ·exact ⟨0,by decide,fU8 (a:=(c.toNat:Nat)) (b:=(120:Nat)) rfl rfl (u8eq (c:=c) (n:=120) (b:=false) (by decide) (beq_eq_false_iff_ne.2 h1)) rfl (by decide) rfl,trivial⟩
 obtain ⟨v,hv,fX⟩:=fX
 have fin:∀ w,w < 3→FactsOk PG (nuL (rdNu s i i' c c2 x te)) (rdS w)→Ev PG f_sql_read [.str s,nI i] (.tup [x.pv,nI te]):=fun w hw fS =>
  Ev.facts (nu:=nuL (rdNu s i i' c c2 x te)) (args:=[.atom 0, .atom 1]) prog_ok (nuL_okB rfl) (okR_eq (List.all_eq_true.1 (List.all_eq_true.1 rd_k v (by rw [List.mem_range];exact hv)) w (by rw [List.mem_range];exact hw))) (FactsOk.append fB (FactsOk.append fX fS)) rfl rfl
 rcases h with ⟨h1,h2⟩|⟨h1,h2⟩|⟨h1,h2⟩
 ·have hsm:=small_ev c
  rw [h1] at hsm
  exact fin 0 (by decide) ⟨fprim hsm rfl rfl rfl,fprim h2 rfl rfl rfl,trivial⟩
 ·have h3:isSmall c=false:=by
   simp only [isDigit,isSmall,Bool.and_eq_true,decide_eq_true_eq] at h1 ⊢
   rw [decide_eq_false (by omega)];rfl
  have hsm:=small_ev c
  have hdg:=digit_ev c
  rw [h3] at hsm
  rw [h1] at hdg
  exact fin 1 (by decide) ⟨fprim hsm rfl rfl rfl,fprim hdg rfl rfl rfl,fprim h2 rfl rfl rfl,trivial⟩
 ·subst h1
  have hsm:=small_ev 39
  have hdg:=digit_ev 39
  rw [show isSmall 39=false from rfl] at hsm
  rw [show isDigit 39=false from rfl] at hdg
  exact fin 2 (by decide) ⟨fprim hsm rfl rfl rfl,fprim hdg rfl rfl rfl,fU8 (a:=(39:Nat)) (b:=(39:Nat)) rfl rfl (u8eq (c:=39) (n:=39) (b:=true) (by decide) rfl) rfl (by decide) rfl,fprim h2 rfl rfl rfl,trivial⟩
end Go.Proofs.YtdlkibeljkapeaaGreatDoor.Den
namespace Go.Proofs.YtdlkibeljkapeaaGreatDoor.Den
open Go Go.RowKit
def hpF (b:Bool) (q:Bool):List Fact:=[.op (.len ty_string) [.atom 0] (.atom 2), .op (.len ty_string) [.atom 1] (.atom 3),oI .geq (.atom 2) (.atom 3) (.bool b), .op (.slice ty_string false true) [.atom 0, .atom 3] (.atom 4), .op (.bin .eql ty_string) [.atom 4, .atom 1] (.bool q)]
theorem hp_k1:(bl fun q=>okR (.bool q) (callF PG (fOrc noOwn (hpF true q)) 10 f_strings_HasPrefix [.atom 0, .atom 1] []))=true:=by kernel_rfl
theorem hp_k0:okR (.bool false) (callF PG (fOrc noOwn [.op (.len ty_string) [.atom 0] (.atom 2), .op (.len ty_string) [.atom 1] (.atom 3),oI .geq (.atom 2) (.atom 3) (.bool false)]) 10 f_strings_HasPrefix [.atom 0, .atom 1] [])=true:=by kernel_rfl
theorem fSliceFr {nu:Nat→PV} {x hi r:PV} {s w:List UInt8} {j:Nat} (h1:subD nu x = .str s) (h3:subD nu hi=nI j) (hij:j≤s.length) (hw:s.take j=w) (h4:subD nu r = .str w) (h5:oneB nu r=true):FactOk PG nu (.op (.slice ty_string false true) [x,hi] r):=by
 refine ⟨?_,h5⟩
 show sliceP PG ty_string (subD nu x) none (some (subD nu hi))=some (subD nu r)
 rw [h1,h3,h4]
 unfold sliceP
 rw [u_string]
 have e1:optBound (some (nI j)) s.length s.length=some j:=by
  show (if 0≤(j:Int)∧(j:Int)≤(s.length:Int) then some ((j:Int).toNat) else none)=_
  rw [if_pos (by omega),Int.toNat_natCast]
 have e2:optBound none j 0=some 0:=rfl
 simp only [boundsP,e1,e2,List.drop_zero,hw]
theorem hasPrefix_ev (a m:List UInt8):Ev PG f_strings_HasPrefix [.str a, .str m] (.bool (m.isPrefixOf a)):=by
 by_cases h:m.length≤a.length
 ·have e:m.isPrefixOf a=(a.take m.length==m):=by
   refine Bool.eq_iff_iff.2 ?_
   rw [List.isPrefixOf_iff_prefix,List.prefix_iff_eq_take,beq_iff_eq]
   exact eq_comm
  rw [e]
  exact Ev.facts (nu:=nuL [.str a, .str m,nI a.length,nI m.length, .str (a.take m.length)]) prog_ok (nuL_okB rfl) (okR_eq (bl_all hp_k1 (a.take m.length==m)))
   ⟨fStrLen rfl rfl rfl,fStrLen rfl rfl rfl,fCmp (c:=true) (a:=a.length) (b:=m.length) rfl rfl rfl (by simp only [intP];rw [decide_eq_true (by omega)]) (by decide) rfl,fSliceFr rfl rfl h rfl rfl rfl,fStrEq (l:=a.take m.length) (m:=m) rfl rfl (same_str _ _) rfl rfl,trivial⟩ rfl rfl
 ·have e:m.isPrefixOf a=false:=by
   rw [Bool.eq_false_iff]
   intro h'
   have:=(List.isPrefixOf_iff_prefix.1 h').length_le
   omega
  rw [e]
  exact Ev.facts (nu:=nuL [.str a, .str m,nI a.length,nI m.length]) (args:=[.atom 0, .atom 1]) prog_ok (nuL_okB rfl) (okR_eq hp_k0)
   ⟨fStrLen rfl rfl rfl,fStrLen rfl rfl rfl,fCmp (c:=false) (a:=a.length) (b:=m.length) rfl rfl rfl (by simp only [intP];rw [decide_eq_false (by omega)]) (by decide) rfl,trivial⟩ rfl rfl
theorem re_k:okR (.tup [sg0 (.atom 2), .atom 2]) (callF PG (fOrc noOwn [.prim f_sql_past [.atom 0, .atom 1, .fn f_sql_blank [] []] (.atom 2), .op (.len ty_string) [.atom 0] (.atom 3),oI .eql (.atom 2) (.atom 3) (.bool true)]) 20 f_sql_read [.atom 0, .atom 1] [])=true:=by kernel_rfl
theorem read_end {s:List UInt8} (hs:s.length≤9223372036854775806) (i:Nat) (hi:i≤s.length) (h:pastN isBlank s i=s.length):Ev PG f_sql_read [.str s,nI i] (.tup [sgP 0 s.length [] 0,nI s.length]):=by
 have hp:=past_blank hs i hi
 rw [h] at hp
 exact Ev.facts (nu:=nuL [.str s,nI i,nI s.length,nI s.length]) prog_ok (nuL_okB rfl) (okR_eq re_k) ⟨fprim hp rfl rfl rfl,fStrLen rfl rfl rfl,fCmp (c:=true) (a:=s.length) (b:=s.length) rfl rfl rfl (by simp only [intP];simp) (by decide) rfl,trivial⟩ rfl rfl
def rmF (i:Nat):List Fact :=
 rdB++([bI .eql (.atom 4) 120 false, .prim f_sql_small [.atom 4] (.bool false), .prim f_sql_digit [.atom 4] (.bool false),bI .eql (.atom 4) 39 false, .prim f_sql_marks [] (strsP marksL), .op (.slice ty_string true false) [.atom 0, .atom 2] (.atom 5),oI .add (.atom 2) (nI 1) (.atom 6),oI .add (.atom 2) (nI 2) (.atom 7)] ++
  (List.range (if i < 11 then i+1 else 11)).map fun j=>.prim f_strings_HasPrefix [.atom 5, .str (marksL.getD j [])] (.bool (Nat.beq j i)))
def mkW (i:Nat):List UInt8:=marksL.getD i []
theorem rm_k:((List.range 11).all fun i=>okR (.tup [sgA (nI 5) (.atom 2) (.str (mkW i)) (nI 0) (nI 0) (nI 0) (.str []) (nI 0),if i < 2 then .atom 7 else .atom 6]) (callF PG (fOrc noOwn (rmF i)) 20 f_sql_read [.atom 0, .atom 1] []))=true:=by kernel_rfl
theorem rmF_ok {s:List UInt8} (hs:s.length≤9223372036854775805) (i:Nat) (hi:i≤s.length) {c:UInt8} (hc:s[pastN isBlank s i]? = some c) (h1:isSmall c=false) (h2:isDigit c=false) (h3:c≠39) (m:Nat)
  (hm:∀ j,j < (if m < 11 then m+1 else 11)→(mkW j).isPrefixOf (s.drop (pastN isBlank s i))=Nat.beq j m) :
  FactsOk PG (nuL [.str s,nI i,nI (pastN isBlank s i:Nat),nI s.length,nB c, .str (s.drop (pastN isBlank s i)),nI (pastN isBlank s i+1:Nat),nI (pastN isBlank s i+2:Nat)]) (rmF m):=by
 have hp:=past_blank (by omega) i hi
 have hb:=past_bd isBlank s i hi
 generalize pastN isBlank s i=i' at *
 have hil:i' < s.length:=(List.getElem?_eq_some_iff.1 hc).1
 have hne:¬ (i':Int)=(s.length:Int):=by omega
 have hsm:=small_ev c
 have hdg:=digit_ev c
 rw [h1] at hsm
 rw [h2] at hdg
 have h4:c≠120:=fun e=>by subst e;cases h1
 have e1:IntKind.i64.wrap ((i':Int)+1)=((i'+1:Nat):Int):=by rw [w6_id (by omega) (by omega)];omega
 have e2:IntKind.i64.wrap ((i':Int)+2)=((i'+2:Nat):Int):=by rw [w6_id (by omega) (by omega)];omega
 refine FactsOk.append ⟨fprim hp rfl rfl rfl,fStrLen rfl rfl rfl,fCmp (c:=false) (a:=i') (b:=s.length) rfl rfl rfl (by show some (PV.bool ((i':Int)==(s.length:Int)))=_;rw [beq_eq_false_iff_ne.2 hne]) (by decide) rfl,fStrIx rfl rfl hc rfl rfl,trivial⟩
  (FactsOk.append ⟨fU8 (a:=(c.toNat:Nat)) (b:=(120:Nat)) rfl rfl (u8eq (c:=c) (n:=120) (b:=false) (by decide) (beq_eq_false_iff_ne.2 h4)) rfl (by decide) rfl,fprim hsm rfl rfl rfl,fprim hdg rfl rfl rfl,
   fU8 (a:=(c.toNat:Nat)) (b:=(39:Nat)) rfl rfl (u8eq (c:=c) (n:=39) (b:=false) (by decide) (beq_eq_false_iff_ne.2 h3)) rfl (by decide) rfl,fprim marks_ev rfl rfl rfl,fSliceTo rfl rfl (by omega) rfl rfl rfl,
   fInt (a:=i') (b:=1) rfl rfl rfl (by simp only [intP];rw [e1]) (by decide) rfl,fInt (a:=i') (b:=2) rfl rfl rfl (by simp only [intP];rw [e2]) (by decide) rfl,trivial⟩ (FactsOk.of fun f hf=>?_))
 obtain ⟨j,hj,rfl⟩:=List.mem_map.1 hf
 rw [List.mem_range] at hj
 have hh:=hasPrefix_ev (s.drop i') (mkW j)
 rw [hm j hj] at hh
 exact fprim hh rfl rfl rfl
theorem read_mark {s:List UInt8} (hs:s.length≤9223372036854775805) (i:Nat) (hi:i≤s.length) {c:UInt8} (hc:s[pastN isBlank s i]? = some c) (h1:isSmall c=false) (h2:isDigit c=false) (h3:c≠39) (m:Nat) (hm11:m < 11)
  (hm:∀ j,j≤m→(mkW j).isPrefixOf (s.drop (pastN isBlank s i))=Nat.beq j m):Ev PG f_sql_read [.str s,nI i] (.tup [sgP 5 (pastN isBlank s i:Nat) (mkW m) 0,nI (pastN isBlank s i+(if m < 2 then 2 else 1):Nat)]):=by
 have hk:=okR_eq (List.all_eq_true.1 rm_k m (by rw [List.mem_range];exact hm11))
 have hf:=rmF_ok hs i hi hc h1 h2 h3 m (fun j hj=>hm j (by rw [if_pos hm11] at hj;omega))
 by_cases hlt:m < 2
 ·rw [if_pos hlt] at hk
  rw [if_pos hlt]
  exact Ev.facts prog_ok (nuL_okB rfl) hk hf rfl rfl
 ·rw [if_neg hlt] at hk
  rw [if_neg hlt]
  exact Ev.facts prog_ok (nuL_okB rfl) hk hf rfl rfl
end Go.Proofs.YtdlkibeljkapeaaGreatDoor.Den
namespace Go.Proofs.YtdlkibeljkapeaaGreatDoor.Den
open Go Go.RowKit
def vP (v:V4):PV:=.agg [nI v.1,nI v.2.1,nI v.2.2.1, .str v.2.2.2]
end Go.Proofs.YtdlkibeljkapeaaGreatDoor.Den
namespace Go.Proofs.YtdlkibeljkapeaaGreatDoor.Den
open Go Go.RowKit
end Go.Proofs.YtdlkibeljkapeaaGreatDoor.Den
namespace Go.Proofs.YtdlkibeljkapeaaGreatDoor.Den
open Go Go.RowKit
end Go.Proofs.YtdlkibeljkapeaaGreatDoor.Den
namespace Go.Proofs.YtdlkibeljkapeaaGreatDoor.Den
open Go Go.RowKit
def okRS (e:PV) (s:List Res):Option (PV × List Res)→Bool
 | some (r,t)=>PV.same r e&&sameS t s
 | none=>false
theorem okRS_eq {e:PV} {s:List Res} {o:Option (PV × List Res)} (h:okRS e s o=true):o=some (e,s):=by
 cases o with
 | none=>cases h
 | some q =>
  simp only [okRS,Bool.and_eq_true] at h
  rw [← same_eq _ _ h.1,← sameS_eq h.2]
def stX (s k a w v0 v1 v2 v3 e tt dp at_ er:PV):List Res:=[.box [s,k,a,w,v0,v1,v2,v3,e,tt,dp,at_,er]]
def okP (s k a w v0 v1 v2 v3 tt dp:PV):List Res:=stX s k a w v0 v1 v2 v3 (nI 0) tt dp (nI 0) (nI 0)
def okL (s:List UInt8) (x:Sg) (tt dp:Nat):List Res:=okP (.str s) (nI x.k) (nI x.a) (.str x.w) (nI x.v.1) (nI x.v.2.1) (nI x.v.2.2.1) (.str x.v.2.2.2) (nI tt) (nI dp)
def okA (j:Nat):List Res:=okP (.atom 0) (.atom (j+0)) (.atom (j+1)) (.atom (j+2)) (.atom (j+3)) (.atom (j+4)) (.atom (j+5)) (.atom (j+6)) (.atom (j+7)) (.atom (j+8))
def okV (x:Sg) (tt dp:Nat):List PV:=[nI x.k,nI x.a, .str x.w,nI x.v.1,nI x.v.2.1,nI x.v.2.2.1, .str x.v.2.2.2,nI tt,nI dp]
def isM (x:Sg) (m:List UInt8):Bool:=(x.k==1||x.k==5)&&x.w==m
def isF (b1 b5 bw:Bool):List Fact:=[oI .eql (.atom 1) (nI 1) (.bool b1),oI .eql (.atom 1) (nI 5) (.bool b5), .op (.bin .eql ty_string) [.atom 3, .atom 10] (.bool bw)]
theorem is_k:bl (fun b1=>bl fun b5=>bl fun bw=>okRS (.bool ((b1||b5)&&bw)) (okA 1) (callF PG (fOrc noOwn (isF b1 b5 bw)) 20 f_sql_parser_is [.box 0 0, .atom 10] (okA 1)))=true:=by kernel_rfl
theorem i64eq (a b:Int):intP .eql .i64 a b=some (.bool (a==b)):=rfl
theorem is_ev (s:List UInt8) (x:Sg) (tt dp:Nat) (m:List UInt8):EvS PG f_sql_parser_is [.box 0 0, .str m] (okL s x tt dp) (.bool (isM x m)) (okL s x tt dp) :=
 EvS.facts (nu:=nuL (.str s::(okV x tt dp++[PV.str m]))) (args:=[.box 0 0, .atom 10]) (s:=okA 1) (s':=okA 1) (r:=.bool ((x.k==1||x.k==5)&&x.w==m)) prog_ok (nuL_okB rfl) (okRS_eq (bl_all (bl_all (bl_all is_k (x.k==1)) (x.k==5)) (x.w==m)))
  ⟨fCmp rfl rfl rfl (i64eq _ _) (by decide) rfl,fCmp rfl rfl rfl (i64eq _ _) (by decide) rfl,fStrEq rfl rfl (same_str _ _) rfl rfl,trivial⟩ rfl rfl rfl
theorem next_k:okRS (.tup []) (okP (.atom 0) (.atom 10) (.atom 11) (.atom 12) (.atom 13) (.atom 14) (.atom 15) (.atom 16) (.atom 17) (.atom 9)) (callF PG (fOrc noOwn [.prim f_sql_read [.atom 0, .atom 8] (.tup [sgA (.atom 10) (.atom 11) (.atom 12) (.atom 13) (.atom 14) (.atom 15) (.atom 16) (nI 0), .atom 17]),oI .eql (.atom 10) (nI 6) (.bool false)]) 20 f_sql_parser_next [.box 0 0] (okA 1))=true:=by kernel_rfl
structure Rd (s:List UInt8) (i:Nat) (x:Sg) (j:Nat):Prop where
 ev:Ev PG f_sql_read [.str s,nI i] (.tup [x.pv,nI j])
 e:x.e=0
 k:x.k≠6
theorem next_ev {s:List UInt8} (x:Sg) {tt:Nat} (dp:Nat) {y:Sg} {tu:Nat} (h:Rd s tt y tu):EvS PG f_sql_parser_next [.box 0 0] (okL s x tt dp) (.tup []) (okL s y tu dp):=by
 obtain ⟨he,h0,hk⟩:=h
 obtain ⟨k,a,w,v,e⟩:=y
 dsimp only at h0 hk
 subst h0
 exact EvS.facts (nu:=nuL (.str s::(okV x tt dp++okV ⟨k,a,w,v,0⟩ tu dp))) (args:=[.box 0 0]) prog_ok (nuL_okB rfl) (okRS_eq next_k) ⟨fprim he rfl rfl rfl,fCmp (c:=false) rfl rfl rfl (by rw [i64eq,beq_eq_false_iff_ne.2 hk]) (by decide) rfl,trivial⟩ rfl rfl rfl
end Go.Proofs.YtdlkibeljkapeaaGreatDoor.Den
namespace Go.Proofs.YtdlkibeljkapeaaGreatDoor.Den
open Go Go.RowKit
theorem fst1 {nu:Nat→PV} {g:FuncId} {args:List PV} {s s':List Res} {r:PV} {a:List PV} {b d:List Res} {c:PV} (h:EvS PG g a b c d) (h1:args.map (subD nu)=a) (h2:s.map (subRes nu)=b) (h3:subD nu r=c) (h4:s'.map (subRes nu)=d) (h5:(oneB nu r&&s'.all (fnRes nu))=true):FactOk PG nu (.st g args s r s') :=
 ⟨by rw [h1,h2,h3,h4];exact h,h5⟩
structure E7 where
 k:PV
 nm:PV
 v0:PV
 v1:PV
 v2:PV
 v3:PV
 l:PV
def E7.L (r:E7):List PV:=[r.k,r.nm,r.v0,r.v1,r.v2,r.v3,r.l]
def E7.pv (r:E7):PV:=.agg r.L
def E7.ok (r:E7):Bool:=r.L.all fun p=>p.clean&&p.pure
def exA (k nm v0 v1 v2 v3 l:PV):PV:=.agg [k,nm,v0,v1,v2,v3,l]
def eA (j:Nat):PV:=exA (.atom (j+0)) (.atom (j+1)) (.atom (j+2)) (.atom (j+3)) (.atom (j+4)) (.atom (j+5)) (.atom (j+6))
def E7.zero:E7:=⟨nI 0, .str [],nI 0,nI 0,nI 0, .str [], .nilslice⟩
def E7.un (k:Int) (r:E7):E7:=⟨nI k, .str [],nI 0,nI 0,nI 0, .str [], .slice 7 [r.pv]⟩
def E7.col (w:List UInt8):E7:=⟨nI 2, .str w,nI 0,nI 0,nI 0, .str [], .nilslice⟩
theorem E7.pure {r:E7} (h:r.ok=true):r.pv.pure=true:=by
 simp only [E7.ok,E7.L,List.all_cons,List.all_nil,Bool.and_eq_true,Bool.and_true] at h
 simp only [E7.pv,E7.L,PV.pure,PV.pureL,h,Bool.and_self]
theorem E7.un_ok {k:Int} {r:E7} (h:r.ok=true):(E7.un k r).ok=true:=by
 have:=E7.pure h
 simp only [E7.un,E7.ok,E7.L,List.all_cons,List.all_nil,PV.clean,PV.pure,PV.pureL,this,Bool.and_self]
abbrev kw (s:String):List UInt8:=bs s
abbrev isT (st:List Res) (m:String) (b:Bool):Fact:=.st f_sql_parser_is [.box 0 0, .str (kw m)] st (.bool b) st
theorem fIs {nu:Nat→PV} {st:List Res} {m:String} {b:Bool} {s:List UInt8} {x:Sg} {tt dp:Nat} (h1:st.map (subRes nu)=okL s x tt dp) (h:isM x (kw m)=b) (h2:st.all (fnRes nu)=true):FactOk PG nu (isT st m b):=by
 refine fst1 (is_ev s x tt dp (kw m)) rfl h1 (by rw [h];rfl) h1 ?_
 rw [h2];rfl
def cnF0 (bm:Bool):List Fact:=[oI .eql (.atom 1) (nI 4) (.bool false),oI .eql (.atom 1) (nI 3) (.bool false),isT (okA 1) "true" false,isT (okA 1) "false" false,isT (okA 1) "null" false,isT (okA 1) "-" bm]
def cnF1:List Fact:=[.prim f_sql_read [.atom 0, .atom 8] (.tup [sgA (.atom 10) (.atom 11) (.atom 12) (.atom 13) (.atom 14) (.atom 15) (.atom 16) (nI 0), .atom 17]),oI .neq (.atom 10) (nI 3) (.bool true)]
def cnF (bm:Bool):List Fact:=cnF0 bm++(match bm with|true=>cnF1|false=>[])
theorem cn_k2:bl (fun bm=>okRS (.tup [.agg [nI 0,nI 0,nI 0, .str []], .bool false]) (okA 1) (callF PG (fOrc noOwn (cnF bm)) 20 f_sql_parser_constant [.box 0 0] (okA 1)))=true:=by kernel_rfl
structure NoLit (s:List UInt8) (x:Sg) (tt:Nat):Prop where
 k4:x.k≠4
 k3:x.k≠3
 t:isM x (kw "true")=false
 f:isM x (kw "false")=false
 n:isM x (kw "null")=false
 m:isM x (kw "-")=true→∃ y tu,Rd s tt y tu∧y.k≠3
theorem i64ne (a b:Int):intP .neq .i64 a b=some (.bool (a != b)):=rfl
theorem const_none {s:List UInt8} {x:Sg} {tt:Nat} (dp:Nat) (h:NoLit s x tt):EvS PG f_sql_parser_constant [.box 0 0] (okL s x tt dp) (.tup [.agg [nI 0,nI 0,nI 0, .str []], .bool false]) (okL s x tt dp):=by
 obtain ⟨h4,h3,ht,hf,hn,hm⟩:=h
 cases hb:isM x (kw "-") with
 | false =>
  exact EvS.facts (nu:=nuL (.str s::okV x tt dp)) (args:=[.box 0 0]) (s:=okA 1) (s':=okA 1) prog_ok (nuL_okB rfl) (okRS_eq (bl_all cn_k2 false))
   ⟨fCmp (c:=false) rfl rfl rfl (by rw [i64eq,beq_eq_false_iff_ne.2 h4]) (by decide) rfl,fCmp (c:=false) rfl rfl rfl (by rw [i64eq,beq_eq_false_iff_ne.2 h3]) (by decide) rfl,fIs rfl ht rfl,fIs rfl hf rfl,fIs rfl hn rfl,fIs rfl hb rfl,trivial⟩ rfl rfl rfl
 | true =>
  obtain ⟨y,tu,⟨he,h0,hk⟩,hy⟩:=hm hb
  obtain ⟨k,a,w,v,e⟩:=y
  dsimp only at h0 hk hy
  subst h0
  exact EvS.facts (nu:=nuL (.str s::(okV x tt dp++okV ⟨k,a,w,v,0⟩ tu dp))) (args:=[.box 0 0]) (s:=okA 1) (s':=okA 1) prog_ok (nuL_okB rfl) (okRS_eq (bl_all cn_k2 true))
   ⟨fCmp (c:=false) rfl rfl rfl (by rw [i64eq,beq_eq_false_iff_ne.2 h4]) (by decide) rfl,fCmp (c:=false) rfl rfl rfl (by rw [i64eq,beq_eq_false_iff_ne.2 h3]) (by decide) rfl,fIs rfl ht rfl,fIs rfl hf rfl,fIs rfl hn rfl,fIs rfl hb rfl,
    fprim he rfl rfl rfl,fCmp (c:=true) rfl rfl rfl (by rw [i64ne];simp [hy]) (by decide) rfl,trivial⟩ rfl rfl rfl
end Go.Proofs.YtdlkibeljkapeaaGreatDoor.Den
namespace Go.Proofs.YtdlkibeljkapeaaGreatDoor.Den
open Go Go.RowKit
def okD (j d:Nat):List Res:=okP (.atom 0) (.atom (j+0)) (.atom (j+1)) (.atom (j+2)) (.atom (j+3)) (.atom (j+4)) (.atom (j+5)) (.atom (j+6)) (.atom (j+7)) (.atom d)
def noneP:PV:=.tup [.agg [nI 0,nI 0,nI 0, .str []], .bool false]
abbrev nextT (a b:List Res):Fact:=.st f_sql_parser_next [.box 0 0] a (.tup []) b
def onB (bm bp:Bool):List Fact:=[.st f_sql_parser_constant [.box 0 0] (okD 1 9) noneP (okD 1 9),isT (okD 1 9) "-" bm,isT (okD 1 9) "(" bp]
def upF:List Fact:=[oI .geq (.atom 9) (nI 12) (.bool false),oI .add (.atom 9) (nI 1) (.atom 18),oI .sub (.atom 18) (nI 1) (.atom 9),nextT (okD 1 18) (okD 10 18)]
theorem on_k1:okRS (exA (nI 4) (.str []) (nI 0) (nI 0) (nI 0) (.str []) (.slice 7 [eA 30])) (okD 20 9) (callF PG (fOrc noOwn (onB true false++(upF++[.st f_sql_parser_one [.box 0 0] (okD 10 18) (eA 30) (okD 20 18)]))) 20 f_sql_parser_one [.box 0 0] (okD 1 9))=true:=by kernel_rfl
theorem on_k2:okRS (eA 30) (okD 40 9) (callF PG (fOrc noOwn (onB false true++(upF++[.st f_sql_parser_any [.box 0 0] (okD 10 18) (eA 30) (okD 20 18),isT (okD 20 9) ")" true,nextT (okD 20 9) (okD 40 9)]))) 20 f_sql_parser_one [.box 0 0] (okD 1 9))=true:=by kernel_rfl
theorem on_k3:okRS (exA (nI 2) (.atom 3) (nI 0) (nI 0) (nI 0) (.str []) .nilslice) (okD 10 9) (callF PG (fOrc noOwn (onB false false++[oI .neq (.atom 1) (nI 2) (.bool false),nextT (okD 1 9) (okD 10 9)])) 20 f_sql_parser_one [.box 0 0] (okD 1 9))=true:=by kernel_rfl
def sv (x:Sg) (tt:Nat):List PV:=[nI x.k,nI x.a, .str x.w,nI x.v.1,nI x.v.2.1,nI x.v.2.2.1, .str x.v.2.2.2,nI tt]
theorem all3 {f:PV→Bool} {a b c:List PV} (h1:a.all f=true) (h2:b.all f=true) (h3:c.all f=true):(a++(b++c)).all f=true:=by rw [List.all_append,List.all_append,h1,h2,h3];rfl
def onNu (s:List UInt8) (x:Sg) (tt dp:Nat) (y:Sg) (tu:Nat) (m:List PV) (r:E7) (q:Sg) (tq:Nat):List PV:=(PV.str s::(sv x tt++(nI dp::(sv y tu++(nI (dp+1:Nat)::nI 0::(m++[nI 0,nI 0]))))))++(r.L++([nI 0,nI 0,nI 0]++sv q tq))
theorem onNu_ok {s:List UInt8} {x:Sg} {tt dp:Nat} {y:Sg} {tu:Nat} {a b c d e f g h:PV} (hm : [a,b,c,d,e,f,g,h].all (fun p=>p.clean&&p.pure)=true) {r:E7} (hr:r.ok=true) {q:Sg} {tq:Nat}:NuOk (nuL (onNu s x tt dp y tu [a,b,c,d,e,f,g,h] r q tq)):=by
 refine nuL_okB (all3 ?_ hr rfl)
 have e:(([a,b,c,d,e,f,g,h]++[nI 0,nI 0]).all fun p=>p.clean&&p.pure)=true:=by rw [List.all_append,hm];rfl
 exact e
def One (s:List UInt8) (x:Sg) (tt dp:Nat) (r:E7) (z:Sg) (tz:Nat):Prop:=EvS PG f_sql_parser_one [.box 0 0] (okL s x tt dp) r.pv (okL s z tz dp)∧r.ok=true
def Any (s:List UInt8) (x:Sg) (tt dp:Nat) (r:E7) (z:Sg) (tz:Nat):Prop:=EvS PG f_sql_parser_any [.box 0 0] (okL s x tt dp) r.pv (okL s z tz dp)∧r.ok=true
section
variable {s:List UInt8} {x y z q:Sg} {tt tu tz tq dp:Nat} {r:E7}
theorem up_ok {nu:Nat→PV} (h9:nu 9=nI dp) (h18:nu 18=nI (dp+1:Nat)) (hd:dp < 12) (h1:(okD 1 18).map (subRes nu)=okL s x tt (dp+1)) (h2:(okD 10 18).map (subRes nu)=okL s y tu (dp+1)) (hy:Rd s tt y tu):FactsOk PG nu upF:=by
 have e1:IntKind.i64.wrap ((dp:Int)+1)=((dp+1:Nat):Int):=by rw [w6_id (by omega) (by omega)];omega
 have e2:IntKind.i64.wrap (((dp+1:Nat):Int) - 1)=(dp:Int):=by rw [w6_id (by omega) (by omega)];omega
 exact ⟨fCmp (a:=dp) (b:=12) (c:=false) h9 rfl rfl (by simp only [intP];rw [decide_eq_false (by omega)]) (by decide) rfl,fInt (a:=dp) (b:=1) (c:=(dp+1:Nat)) h9 rfl h18 (by simp only [intP];rw [e1]) (by decide) (by show (nu 18).one=true;rw [h18];rfl),
  fInt (a:=(dp+1:Nat)) (b:=1) (c:=dp) h18 rfl h9 (by simp only [intP];rw [e2]) (by decide) (by show (nu 9).one=true;rw [h9];rfl),fst1 (next_ev x (dp+1) hy) rfl h1 rfl h2 rfl,trivial⟩
theorem one_neg (hn:NoLit s x tt) (hm:isM x (kw "-")=true) (hp:isM x (kw "(")=false) (hd:dp < 12) (hy:Rd s tt y tu) (h:One s y tu (dp+1) r z tz):One s x tt dp (E7.un 4 r) z tz:=by
 obtain ⟨h,hr⟩:=h
 refine ⟨?_,E7.un_ok hr⟩
 have hnu:NuOk (nuL (onNu s x tt dp y tu (sv z tz) r x tt)):=onNu_ok rfl hr
 have hpu:=E7.pure (E7.un_ok (k:=4) hr)
 exact EvS.facts (nu:=nuL (onNu s x tt dp y tu (sv z tz) r x tt)) (args:=[.box 0 0]) (s:=okD 1 9) (s':=okD 20 9) prog_ok hnu (okRS_eq on_k1)
  (FactsOk.append ⟨fst1 (const_none dp hn) rfl rfl rfl rfl rfl,fIs rfl hm rfl,fIs rfl hp rfl,trivial⟩ (FactsOk.append (up_ok rfl rfl hd rfl rfl hy) ⟨fst1 h rfl rfl rfl rfl rfl,trivial⟩)) rfl rfl (by rw [Bool.and_eq_true];exact ⟨hpu,rfl⟩)
theorem one_par (hn:NoLit s x tt) (hm:isM x (kw "-")=false) (hp:isM x (kw "(")=true) (hd:dp < 12) (hy:Rd s tt y tu) (h:Any s y tu (dp+1) r z tz) (hz:isM z (kw ")")=true) (hq:Rd s tz q tq):One s x tt dp r q tq:=by
 obtain ⟨h,hr⟩:=h
 refine ⟨?_,hr⟩
 have hnu:NuOk (nuL (onNu s x tt dp y tu (sv z tz) r q tq)):=onNu_ok rfl hr
 have hpu:=E7.pure hr
 exact EvS.facts (nu:=nuL (onNu s x tt dp y tu (sv z tz) r q tq)) (args:=[.box 0 0]) (s:=okD 1 9) (s':=okD 40 9) prog_ok hnu (okRS_eq on_k2)
  (FactsOk.append ⟨fst1 (const_none dp hn) rfl rfl rfl rfl rfl,fIs rfl hm rfl,fIs rfl hp rfl,trivial⟩ (FactsOk.append (up_ok rfl rfl hd rfl rfl hy) ⟨fst1 h rfl rfl rfl rfl rfl,fIs rfl hz rfl,fst1 (next_ev z dp hq) rfl rfl rfl rfl rfl,trivial⟩)) rfl rfl (by rw [Bool.and_eq_true];exact ⟨hpu,rfl⟩)
theorem one_name (hn:NoLit s x tt) (hm:isM x (kw "-")=false) (hp:isM x (kw "(")=false) (hk:x.k=2) (hy:Rd s tt y tu):One s x tt dp (E7.col x.w) y tu:=by
 refine ⟨?_,rfl⟩
 exact EvS.facts (nu:=nuL (onNu s x tt dp y tu (sv x tt) E7.zero x tt)) (args:=[.box 0 0]) (s:=okD 1 9) (s':=okD 10 9) prog_ok (onNu_ok rfl rfl) (okRS_eq on_k3)
  (FactsOk.append ⟨fst1 (const_none dp hn) rfl rfl rfl rfl rfl,fIs rfl hm rfl,fIs rfl hp rfl,trivial⟩ ⟨fCmp (c:=false) rfl rfl rfl (by rw [i64ne,hk];rfl) (by decide) rfl,fst1 (next_ev x dp hy) rfl rfl rfl rfl rfl,trivial⟩) rfl rfl rfl
def stops:List String:=["*", "+", "-", "=", "<>", "<", "<=", "is", "and", "or"]
theorem any_k:okRS (eA 30) (okD 20 9) (callF PG (fOrc noOwn (isT (okD 1 9) "not" false::.st f_sql_parser_one [.box 0 0] (okD 1 9) (eA 30) (okD 20 9)::stops.map fun m=>isT (okD 20 9) m false)) 20 f_sql_parser_any [.box 0 0] (okD 1 9))=true:=by kernel_rfl
theorem any_one (hn:isM x (kw "not")=false) (h:One s x tt dp r z tz) (hz:∀ m∈stops,isM z (kw m)=false):Any s x tt dp r z tz:=by
 obtain ⟨h,hr⟩:=h
 refine ⟨?_,hr⟩
 have hpu:=E7.pure hr
 have hnu:NuOk (nuL (onNu s x tt dp x tt (sv z tz) r x tt)):=onNu_ok rfl hr
 refine EvS.facts (nu:=nuL (onNu s x tt dp x tt (sv z tz) r x tt)) (args:=[.box 0 0]) (s:=okD 1 9) (s':=okD 20 9) prog_ok hnu (okRS_eq any_k) ⟨fIs rfl hn rfl,fst1 h rfl rfl rfl rfl rfl,FactsOk.of fun f hf=>?_⟩ rfl rfl (by rw [Bool.and_eq_true];exact ⟨hpu,rfl⟩)
 obtain ⟨m,hm,rfl⟩:=List.mem_map.1 hf
 exact fIs rfl (hz m hm) rfl
end
end Go.Proofs.YtdlkibeljkapeaaGreatDoor.Den
namespace Go.Proofs.YtdlkibeljkapeaaGreatDoor.Den
open Go Go.RowKit
def headNot (p:UInt8→Bool):List UInt8→Bool
 | []=>true
 | c::_=>!p c
theorem takeWhile_front {p:UInt8→Bool}:∀ {g t:List UInt8},g.all p=true→headNot p t=true→(g++t).takeWhile p=g
 | [],[],_,_=>rfl
 | [],c::t,_,h=>by
  simp only [headNot,Bool.not_eq_true'] at h
  simp [h]
 | c::g,t,hg,h=>by
  simp only [List.all_cons,Bool.and_eq_true] at hg
  simp only [List.cons_append,List.takeWhile_cons,hg.1,if_true]
  rw [takeWhile_front hg.2 h]
theorem pastN_of {p:UInt8→Bool} {s:List UInt8} {i:Nat} {g t:List UInt8} (h:s.drop i=g++t) (hg:g.all p=true) (ht:headNot p t=true):pastN p s i=i+g.length:=by
 unfold pastN
 rw [h,takeWhile_front hg ht]
theorem drop_more {s:List UInt8} {i:Nat} {g t:List UInt8} (h:s.drop i=g++t):s.drop (i+g.length)=t:=by
 rw [← List.drop_drop,h];simp
theorem drop_le {s:List UInt8} {i:Nat} {c:UInt8} {t:List UInt8} (h:s.drop i=c::t):i < s.length∧s[i]? = some c:=by
 have hl:i < s.length:=by
  rcases Nat.lt_or_ge i s.length with hl|hl
  ·exact hl
  ·rw [List.drop_eq_nil_of_le hl] at h;cases h
 refine ⟨hl,?_⟩
 rw [List.drop_eq_getElem_cons hl] at h
 cases h
 exact List.getElem?_eq_getElem hl
def wordSg (w:List UInt8) (a:Nat):Sg:=⟨if keysL.contains w then 1 else 2,a,w,v0,0⟩
def markSg (m a:Nat):Sg:=⟨5,a,mkW m,v0,0⟩
def endSg (a:Nat):Sg:=⟨0,a,[],v0,0⟩
section
variable {s:List UInt8} {i:Nat} {g:List UInt8}
theorem inner_notBlank {c:UInt8} (h:isSmall c=true):isBlank c=false:=by
 simp only [isSmall,Bool.and_eq_true,decide_eq_true_eq] at h
 simp only [isBlank,Bool.or_eq_false_iff,beq_eq_false_iff_ne]
 refine ⟨fun e=>?_,fun e=>?_⟩<;>subst e<;>simp at h
theorem rd_word (hs:s.length≤9223372036854775805) (hi:i≤s.length) {c:UInt8} {w rest:List UInt8} (h:s.drop i=g++((c::w)++rest)) (hg:g.all isBlank=true) (hc:isSmall c=true) (hw:w.all isInner=true) (hr:headNot isInner rest=true)
  (hx:c=120→w=[]→rest[0]? ≠ some 39) (hl:w.length≤11):Rd s i (wordSg (c::w) (i+g.length)) (i+g.length+(w.length+1)):=by
 have hci:isInner c=true:=by simp [isInner,hc]
 have hall:(c::w).all isInner=true:=by simp [hci,hw]
 have hp:=pastN_of h hg (by show (!isBlank c)=true;rw [inner_notBlank hc];rfl)
 have hd:=drop_more h
 obtain ⟨hil,hci'⟩:=drop_le (show s.drop (i+g.length)=c::(w++rest) from hd)
 have hwd:wordAt s (i+g.length)=c::w:=by
  unfold wordAt
  rw [hd,takeWhile_front hall hr]
 have hp2:=pastN_of hd hall hr
 have hl2:=letters_ev (s:=s) (by omega) (i+g.length) (by omega)
 rw [hwd,hp2,if_neg (show ¬ 12 < (c::w).length by rw [List.length_cons];omega)] at hl2
 refine ⟨?_,rfl,?_⟩
 ·have:=read_ev (s:=s) (by omega) i hi (c:=c) (x:=wordSg (c::w) (i+g.length)) (te:=i+g.length+(w.length+1)) (by rw [hp];exact hci') (fun e=>?_) (.inl ⟨hc,by rw [hp];exact hl2⟩)
  ·exact this
  ·rw [hp]
   have hd2:s.drop (i+g.length+1)=w++rest:=by
    have:=drop_more (g:=[c]) (t:=w++rest) hd
    exact this
   have he:s[i+g.length+1]? = (w++rest)[0]?:=by rw [← hd2];simp
   rw [he]
   cases w with
   | nil=>exact hx e rfl
   | cons d w =>
    intro h39
    simp at h39
    subst h39
    simp only [List.all_cons,Bool.and_eq_true] at hw
    exact absurd hw.1 (by decide)
 ·show (if keysL.contains (c::w) then (1:Int) else 2)≠6
  split<;>decide
theorem rd_end (hs:s.length≤9223372036854775806) (hi:i≤s.length) (h:s.drop i=g) (hg:g.all isBlank=true):Rd s i (endSg s.length) s.length:=by
 have hp:=pastN_of (p:=isBlank) (t:=[]) (g:=g) (by rw [h];simp) hg rfl
 have hl:i+g.length=s.length:=by rw [← h,List.length_drop];omega
 exact ⟨read_end hs i hi (by rw [hp,hl]),rfl,(by show (0:Int)≠6;decide)⟩
theorem rd_mark (hs:s.length≤9223372036854775805) (hi:i≤s.length) (m:Nat) (hm11:m < 11) {rest:List UInt8} (h:s.drop i=g++(mkW m++rest)) (hg:g.all isBlank=true)
  (hm:∀ j,j≤m→(mkW j).isPrefixOf (mkW m++rest)=Nat.beq j m):Rd s i (markSg m (i+g.length)) (i+g.length+(if m < 2 then 2 else 1)):=by
 have hk:∀ m,m < 11→∃ c t,mkW m=c::t∧isBlank c=false∧isSmall c=false∧isDigit c=false∧c≠39:=by
  intro m hm
  have:((List.range 11).all fun m=>match mkW m with|c::_=>!isBlank c&&(!isSmall c&&(!isDigit c&&c != 39)) | []=>false)=true:=by decide
  have:=List.all_eq_true.1 this m (by rw [List.mem_range];exact hm)
  cases hq:mkW m with
  | nil=>rw [hq] at this;cases this
  | cons c t =>
   rw [hq] at this
   simp only [Bool.and_eq_true,Bool.not_eq_true',bne_iff_ne] at this
   exact ⟨c,t,rfl,this.1,this.2.1,this.2.2.1,this.2.2.2⟩
 obtain ⟨c,t,hc,h1,h2,h3,h4⟩:=hk m hm11
 have hp:=pastN_of h hg (by rw [hc];show (!isBlank c)=true;rw [h1];rfl)
 have hd:=drop_more h
 obtain ⟨hil,hci'⟩:=drop_le (show s.drop (i+g.length)=c::(t++rest) by rw [hd,hc];rfl)
 have:=read_mark hs i hi (c:=c) (by rw [hp];exact hci') h2 h3 h4 m hm11 (fun j hj=>by rw [hp,hd];exact hm j hj)
 rw [hp] at this
 exact ⟨this,rfl,(by show (5:Int)≠6;decide)⟩
theorem rd_mark' (hs:s.length≤9223372036854775805) (hi:i≤s.length) (m:Nat) (hm11:m < 11) (hm7:m≠7) {rest:List UInt8} (h:s.drop i=g++(mkW m++rest)) (hg:g.all isBlank=true):Rd s i (markSg m (i+g.length)) (i+g.length+(if m < 2 then 2 else 1)):=by
 refine rd_mark hs hi m hm11 h hg (fun j hj=>?_)
 have hj11:j < 11:=by omega
 clear h
 match m,j,hm11,hm7,hj with
 | 0,0,_,_,_=>rfl
 | 1,0,_,_,_|1,1,_,_,_=>rfl
 | 2,0,_,_,_|2,1,_,_,_|2,2,_,_,_=>rfl
 | 3,0,_,_,_|3,1,_,_,_|3,2,_,_,_|3,3,_,_,_=>rfl
 | 4,0,_,_,_|4,1,_,_,_|4,2,_,_,_|4,3,_,_,_|4,4,_,_,_=>rfl
 | 5,0,_,_,_|5,1,_,_,_|5,2,_,_,_|5,3,_,_,_|5,4,_,_,_|5,5,_,_,_=>rfl
 | 6,0,_,_,_|6,1,_,_,_|6,2,_,_,_|6,3,_,_,_|6,4,_,_,_|6,5,_,_,_|6,6,_,_,_=>rfl
 | 8,0,_,_,_|8,1,_,_,_|8,2,_,_,_|8,3,_,_,_|8,4,_,_,_|8,5,_,_,_|8,6,_,_,_|8,7,_,_,_|8,8,_,_,_=>rfl
 | 9,0,_,_,_|9,1,_,_,_|9,2,_,_,_|9,3,_,_,_|9,4,_,_,_|9,5,_,_,_|9,6,_,_,_|9,7,_,_,_|9,8,_,_,_|9,9,_,_,_=>rfl
 | 10,0,_,_,_|10,1,_,_,_|10,2,_,_,_|10,3,_,_,_|10,4,_,_,_|10,5,_,_,_|10,6,_,_,_|10,7,_,_,_|10,8,_,_,_|10,9,_,_,_|10,10,_,_,_=>rfl
end
end Go.Proofs.YtdlkibeljkapeaaGreatDoor.Den
namespace Go.Proofs.YtdlkibeljkapeaaGreatDoor.Den
open Go Go.RowKit
section
variable {s:List UInt8} (hs:s.length≤9223372036854775805)
include hs
omit hs in
omit hs in
end
end Go.Proofs.YtdlkibeljkapeaaGreatDoor.Den
namespace Go.Proofs.YtdlkibeljkapeaaGreatDoor.Den
open Go Go.RowKit
theorem w3_kt:callF PG (fOrc (fun _ _=>false) [.op (.bin .rem ty_int) [.atom 0, .atom 1] (.atom 2), .op (.bin .lss ty_int) [.atom 2, .int .i64 0] (.bool true), .op (.bin .add ty_int) [.atom 2, .atom 1] (.atom 3)]) 5 f_l3_within [.atom 0, .atom 1] []=some (.atom 3,[]):=by kernel_rfl
theorem w3_kf:callF PG (fOrc (fun _ _=>false) [.op (.bin .rem ty_int) [.atom 0, .atom 1] (.atom 2), .op (.bin .lss ty_int) [.atom 2, .int .i64 0] (.bool false)]) 5 f_l3_within [.atom 0, .atom 1] []=some (.atom 2,[]):=by kernel_rfl
theorem within3_ev (a n:Int) (hn:n≠0):Ev PG f_l3_within [.int .i64 a, .int .i64 n] (.int .i64 (wthn a n)):=by
 by_cases hc:a.tmod n < 0
 ·have e:wthn a n=IntKind.i64.wrap (a.tmod n+n):=if_pos hc
  rw [e]
  exact Ev.facts prog_ok (nuL_okB (l:=[.int .i64 a, .int .i64 n, .int .i64 (a.tmod n), .int .i64 (IntKind.i64.wrap (a.tmod n+n))]) rfl)
   w3_kt ⟨fInt rfl rfl rfl (by simp [intP,hn]) (by decide) rfl,fCmp rfl rfl rfl (by simp [intP,hc]) (by decide) rfl,fInt rfl rfl rfl rfl (by decide) rfl,trivial⟩ rfl rfl
 ·have e:wthn a n=a.tmod n:=if_neg hc
  rw [e]
  exact Ev.facts prog_ok (nuL_okB (l:=[.int .i64 a, .int .i64 n, .int .i64 (a.tmod n)]) rfl)
   w3_kf ⟨fInt rfl rfl rfl (by simp [intP,hn]) (by decide) rfl,fCmp rfl rfl rfl (by simp [intP,hc]) (by decide) rfl,trivial⟩ rfl rfl
theorem pureL_of {l:List PV} (h:∀ p∈l,p.pure=true):PV.pureL l=true:=by
 induction l with
 | nil=>rfl
 | cons p l ih =>
  simp only [PV.pureL,Bool.and_eq_true]
  exact ⟨h p (by simp),ih fun q hq=>h q (by simp [hq])⟩
def knF:List Fact:=kF++[cutF (bs "5"),itoaF (-5,[45,53])]
theorem known_k:okR (.bool true) (callF PG (fOrc noOwn knF) 70 f_l3_known [] [])=true:=by kernel_rfl
theorem itoa5:([45,53]:List UInt8)=Lib.itoa (-5):=by kernel_rfl
theorem known_ev:Ev PG f_l3_known [] (.bool true) :=
 Ev.facts (nu:=nuL []) (args:=[]) prog_ok (nuL_okB rfl) (okR_eq known_k) ⟨fprim keys_ev rfl rfl rfl,fprim marks_ev rfl rfl rfl,fprim (cut_ev (bs "5") [46] (by decide)) rfl rfl rfl,fprim (itoa_ev (-5) (by decide)) rfl (congrArg PV.str itoa5) rfl,trivial⟩ rfl rfl
end Go.Proofs.YtdlkibeljkapeaaGreatDoor.Den
namespace Go.Proofs.YtdlkibeljkapeaaGreatDoor.Den
open Go Go.RowKit
def tableZ:List PV:=[.str [], .nilslice,nI 0, .nilslice,nI 0, .str [],nI 0,nI 0,nI 0, .str [], .nilslice, .nilslice]
def stmtP (k:PV) (T:List PV) (nm col dst row:PV) (e w:List PV):PV:=.agg (k::(T++([nm,col,dst,row]++(e++w))))
def eaL (j:Nat):List PV:=[.atom (j+0), .atom (j+1), .atom (j+2), .atom (j+3), .atom (j+4), .atom (j+5), .atom (j+6)]
end Go.Proofs.YtdlkibeljkapeaaGreatDoor.Den
namespace Go.Proofs.YtdlkibeljkapeaaGreatDoor.Den
open Go Go.RowKit
end Go.Proofs.YtdlkibeljkapeaaGreatDoor.Den
namespace Go.Proofs.YtdlkibeljkapeaaGreatDoor.Den
open Go Go.RowKit
end Go.Proofs.YtdlkibeljkapeaaGreatDoor.Den
namespace Go.Proofs.YtdlkibeljkapeaaGreatDoor.Den
open Go Go.RowKit
theorem wthn_nat (n:Int) (m:Nat) (h0:0 < m) (h1:m≤9223372036854775807):∃ k:Nat,wthn n m=k∧k < m:=by
 unfold wthn
 have h2:=Int.tmod_lt_of_pos n (show (0:Int) < m by omega)
 have h3 : -(m:Int) < n.tmod m:=by
  have:=Int.lt_tmod_of_pos n (show (0:Int) < m by omega)
  omega
 split
 ·rw [w6_id (by omega) (by omega)]
  exact ⟨(n.tmod m+m).toNat,by omega,by omega⟩
 ·exact ⟨(n.tmod m).toNat,by omega,by omega⟩
end Go.Proofs.YtdlkibeljkapeaaGreatDoor.Den
namespace Go.Proofs.YtdlkibeljkapeaaGreatDoor.Den
open Go Go.RowKit
end Go.Proofs.YtdlkibeljkapeaaGreatDoor.Den
namespace Go.Proofs.YtdlkibeljkapeaaGreatDoor.Den
open Go Go.RowKit
end Go.Proofs.YtdlkibeljkapeaaGreatDoor.Den
namespace Go.Proofs.YtdlkibeljkapeaaGreatDoor.Den
open Go Go.RowKit
end Go.Proofs.YtdlkibeljkapeaaGreatDoor.Den
namespace Go.Proofs.YtdlkibeljkapeaaGreatDoor.Den
open Go Go.RowKit
end Go.Proofs.YtdlkibeljkapeaaGreatDoor.Den
namespace Go.Proofs.YtdlkibeljkapeaaGreatDoor.Den
open Go Go.RowKit
def litP (j:Nat):PV:=.tup [.agg [.atom j, .atom (j+1), .atom (j+2), .atom (j+3)], .bool true]
def Const (s:List UInt8) (x:Sg) (tt dp:Nat) (v:V4) (z:Sg) (tz:Nat):Prop:=EvS PG f_sql_parser_constant [.box 0 0] (okL s x tt dp) (.tup [vP v, .bool true]) (okL s z tz dp)
def v4L (v:V4):List PV:=[nI v.1,nI v.2.1,nI v.2.2.1, .str v.2.2.2]
def coNu (s:List UInt8) (x:Sg) (tt dp:Nat) (y:Sg) (tu:Nat) (v:V4) (z:Sg) (tz:Nat):List PV:=PV.str s::(sv x tt++(nI dp::(sv y tu++([nI 0,nI 0]++(v4L v++([nI 0,nI 0,nI 0,nI 0,nI 0,nI 0]++sv z tz))))))
end Go.Proofs.YtdlkibeljkapeaaGreatDoor.Den
namespace Go.Proofs.YtdlkibeljkapeaaGreatDoor.Den
open Go Go.RowKit
def litE (j:Nat):PV:=exA (nI 1) (.str []) (.atom j) (.atom (j+1)) (.atom (j+2)) (.atom (j+3)) .nilslice
def E7.lit (v:V4):E7:=⟨nI 1, .str [],nI v.1,nI v.2.1,nI v.2.2.1, .str v.2.2.2, .nilslice⟩
end Go.Proofs.YtdlkibeljkapeaaGreatDoor.Den
