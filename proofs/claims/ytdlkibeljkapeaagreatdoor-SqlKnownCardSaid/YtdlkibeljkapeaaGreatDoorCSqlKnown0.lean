-- Written by drive.py and pack.py (programs of this proof's own) through the kit's printer; not trusted: Lean checks it.
import Derived.Lib.ItoaNum
import Derived.KernelRfl
import Derived.Lib.Space
import Derived.Orders
import Derived.Below
import Derived.ScopeJumps
import Derived.Laws.StructEq
import Derived.Laws.Cells
import Derived.Laws.BytesString
import Derived.Laws.AppendOwn
namespace Go.Proofs.YtdlkibeljkapeaaGreatDoor.Den
def gArr:Nat→Option (Array Value)
 | 0=>some (Lib.pow10Tab.map fun z=>Value.int .u64 z).toArray
 | 4=>some (Lib.asciiSpaceTab.map fun z=>Value.int .u8 z).toArray
 | _=>none
theorem gArr_one (g:Nat) (a:Array Value) (h:gArr g=some a):a.toList.all Value.oneCell'=true:=by
 unfold gArr at h
 split at h
 ·cases h;kernel_rfl
 ·cases h;kernel_rfl
 ·cases h
def gAny (g:Nat):Bool:=Nat.beq g 1
open Go Go.RowKit
inductive PV where
 | any
 | undef
 | bool (b:Bool)
 | int (k:IntKind) (n:Int)
 | str (s:List UInt8)
 | nilptr
 | box (id off:Nat)
 | ref (cs:List PV)
 | slice (sz:Nat) (xs:List PV)
 | ms (g n:Nat)
 | rp (g n off:Nat)
 | nilslice
 | eslice
 | agg (cs:List PV)
 | tup (vs:List PV)
 | fn (f:FuncId) (first captured:List PV)
 | nilfn
 | atom (j:Nat)
 deriving Inhabited
def PV.clean:PV→Bool
 | .box _ _=>false
 | .ms _ _ | .rp _ _ _=>false
 | .fn _ a b=>a.isEmpty&&b.isEmpty
 | .agg _ | .tup _=>false
 | _=>true
def PV.cells:PV→Option (List PV)
 | .agg cs=>some cs
 | .any | .undef | .tup _=>none
 | v=>some [v]
def PV.cellsD (v:PV):List PV:=match v with | .agg cs=>cs|v=>[v]
def PV.flatA:PV→Bool
 | .bool _ | .int _ _ | .str _=>true
 | _=>false
structure Map where
 M:Nat→Nat→Option Value
 mb:Nat→Option Nat
 mt:Nat→Nat→Option (Nat × Nat)
 nu:Nat→PV
structure Map.Le (X Y:Map):Prop where
 M:∀ b o v,X.M b o=some v→Y.M b o=some v
 mb:∀ i b,X.mb i=some b→Y.mb i=some b
 mt:∀ i n p,X.mt i n=some p→Y.mt i n=some p
 nu:X.nu=Y.nu
theorem Map.Le.refl (X:Map):X.Le X:=⟨fun _ _ _ h=>h,fun _ _ h=>h,fun _ _ _ h=>h,rfl⟩
theorem Map.Le.trans {X Y Z:Map} (h:X.Le Y) (k:Y.Le Z):X.Le Z :=
 ⟨fun _ _ _ e=>k.M _ _ _ (h.M _ _ _ e),fun _ _ e=>k.mb _ _ (h.mb _ _ e),fun _ _ _ e=>k.mt _ _ _ (h.mt _ _ _ e),h.nu.trans k.nu⟩
inductive R (X:Map):PV→Value→Prop
 | any v:R X .any v
 | undef:R X .undef undef
 | bool b:R X (.bool b) (.bool b)
 | int k n:R X (.int k n) (.int k n)
 | str (s:ByteArray):R X (.str s.data.toList) (.string s)
 | nilptr:R X .nilptr (.pointer none)
 | box id off b:X.mb id=some b→R X (.box id off) (.pointer (some ⟨b,off,none⟩))
 | ref (cs:List PV) b o (u:Nat→Value):(∀ j c,cs[j]? = some c→X.M b (o+j)=some (u j))→(∀ j c,cs[j]? = some c→R X c (u j)) →
   (∀ j c,cs[j]? = some c→(u j).oneCell'=true∧c.clean=true)→R X (.ref cs) (.pointer (some ⟨b,o,none⟩))
 | slice sz (xs:List PV) b o cap (u:Nat→Value):(∀ x∈xs,x.cellsD.length=sz)→0 < sz→xs.length≤cap →
   (∀ j c,(xs.flatMap PV.cellsD)[j]? = some c→X.M b (o+j)=some (u j))→(∀ j c,(xs.flatMap PV.cellsD)[j]? = some c→R X c (u j)) →
   (∀ j c,(xs.flatMap PV.cellsD)[j]? = some c→(u j).oneCell'=true∧c.clean=true)→R X (.slice sz xs) (.slice (some ⟨b,o,none⟩) xs.length cap)
 | ms g n b cap:X.mt g n=some (b,cap)→R X (.ms g n) (.slice (some ⟨b,0,none⟩) n cap)
 | rp g n off b cap:X.mt g n=some (b,cap)→R X (.rp g n off) (.pointer (some ⟨b,off,none⟩))
 | nilslice:R X .nilslice (.slice none 0 0)
 | eslice a:R X .eslice (.slice (some a) 0 0)
 | agg (cs:List PV) (vs:Array Value):vs.size=cs.length→(∀ j c,cs[j]? = some c→R X c (vs.getD j Go.undef)) →
   (∀ v∈vs,v.oneCell'=true)→R X (.agg cs) (.agg vs)
 | tup (cs:List PV) (vs:Array Value):vs.size=cs.length→(∀ j c,cs[j]? = some c→R X c (vs.getD j Go.undef))→R X (.tup cs) (.tuple vs)
 | fn f (first captured:List PV) (fs cs:Array Value):fs.size=first.length→cs.size=captured.length →
   (∀ j c,first[j]? = some c→R X c (fs.getD j Go.undef))→(∀ j c,captured[j]? = some c→R X c (cs.getD j Go.undef)) →
   R X (.fn f first captured) (.func (.func f) fs cs)
 | nilfn:R X .nilfn .nilFunc
 | atom j v:(X.nu j).clean=true∧(Nat.ble 1000 j=true→(X.nu j).flatA=true)→v.oneCell'=true→R X (X.nu j) v→R X (.atom j) v
theorem R.mono {X Y:Map} (h:X.Le Y) {p:PV} {v:Value} (hr:R X p v):R Y p v:=by
 induction hr with
 | any v=>exact .any v
 | undef=>exact .undef
 | bool b=>exact .bool b
 | int k n=>exact .int k n
 | str s=>exact .str s
 | nilptr=>exact .nilptr
 | box id off b hb=>exact .box id off b (h.mb _ _ hb)
 | ref cs b o u h1 _ h3 ih=>exact .ref cs b o u (fun j c hc=>h.M _ _ _ (h1 j c hc)) ih h3
 | slice sz xs b o cap u h1 h2 h3 h4 _ h6 ih =>
  exact .slice sz xs b o cap u h1 h2 h3 (fun j c hc=>h.M _ _ _ (h4 j c hc)) ih h6
 | ms g n b cap hb=>exact .ms g n b cap (h.mt _ _ _ hb)
 | rp g n off b cap hb=>exact .rp g n off b cap (h.mt _ _ _ hb)
 | nilslice=>exact .nilslice
 | eslice a=>exact .eslice a
 | agg cs vs h1 _ h3 ih=>exact .agg cs vs h1 ih h3
 | tup cs vs h1 _ ih=>exact .tup cs vs h1 ih
 | fn f a b fs cs h1 h2 _ _ ih1 ih2=>exact .fn f a b fs cs h1 h2 ih1 ih2
 | nilfn=>exact .nilfn
 | atom j v h1 h2 _ ih=>rw [h.nu] at h1 ih;exact .atom j v h1 h2 ih
theorem R.clean {X Y:Map} (hn:X.nu=Y.nu) (h:∀ b o v,X.M b o=some v→Y.M b o=some v) {p:PV} {v:Value} (hr:R X p v) (hc:p.clean=true):R Y p v:=by
 induction hr with
 | any v=>exact .any v
 | undef=>exact .undef
 | bool b=>exact .bool b
 | int k n=>exact .int k n
 | str s=>exact .str s
 | nilptr=>exact .nilptr
 | box id off b hb=>cases hc
 | ref cs b o u h1 _ h3 ih=>exact .ref cs b o u (fun j c hc=>h _ _ _ (h1 j c hc)) (fun j c hj=>ih j c hj (h3 j c hj).2) h3
 | slice sz xs b o cap u h1 h2 h3 h4 _ h6 ih =>
  exact .slice sz xs b o cap u h1 h2 h3 (fun j c hc=>h _ _ _ (h4 j c hc)) (fun j c hj=>ih j c hj (h6 j c hj).2) h6
 | ms g n b cap hb=>cases hc
 | rp g n off b cap hb=>cases hc
 | nilslice=>exact .nilslice
 | eslice a=>exact .eslice a
 | agg cs vs h1 _ h3 ih=>cases hc
 | tup cs vs h1 _ ih=>cases hc
 | fn f a b fs cs h1 h2 _ _ ih1 ih2 =>
  simp only [PV.clean,Bool.and_eq_true,List.isEmpty_iff] at hc
  obtain ⟨rfl,rfl⟩:=hc
  exact .fn f [] [] fs cs h1 h2 (fun j c hj=>by simp at hj) (fun j c hj=>by simp at hj)
 | nilfn=>exact .nilfn
 | atom j v h1 h2 _ ih=>have:=ih h1.1;rw [hn] at h1 this;exact .atom j v h1 h2 this
def gIs (g:Nat):Bool:=(gArr g).isSome||gAny g
def GOk (M:Nat→Nat→Option Value) (w:World):Prop:=∀ g,gIs g=true→∃ arr e fr,w.heap[g]? = some (.cells arr e fr)∧0 < arr.size∧(∀ (j:Nat) v,arr[j]? = some v→M g j=some v)∧(match gArr g with|some a=>arr=a|none=>∃ m,arr = #[.int .i64 m])
theorem GOk.keep {M M':Nat→Nat→Option Value} {w w':World} (h:GOk M w) (hle:∀ b o v,M b o=some v→M' b o=some v) (hk:∀ g,(∃ v,M g 0=some v)→g < w.heap.size→w'.heap[g]? = w.heap[g]?):GOk M' w':=fun g hg=>by
 obtain ⟨arr,e,fr,h1,h2,h3,h4⟩:=h g hg
 have h0:arr[0]? = some arr[0]:=Array.getElem?_eq_getElem h2
 exact ⟨arr,e,fr,(hk g ⟨_,h3 0 _ h0⟩ (Array.getElem?_eq_some_iff.1 h1).1).trans h1,h2,fun j v hv=>hle _ _ _ (h3 j v hv),h4⟩
def Map.Ok (X:Map) (w:World):Prop:=(∀ b o v,X.M b o=some v→w.cell? ⟨b,o,none⟩=some v)∧GOk X.M w
inductive Res where
 | dead
 | box (cs:List PV)
 | row (e:TypeId) (sz n:Nat) (cs:List PV)
 deriving Inhabited
def Owns (X:Map) (id:Nat) (b:Nat):Option Res→Prop
 | some (.box _)=>X.mb id=some b
 | some (.row _ _ n _)=>∃ cap,X.mt id n=some (b,cap)
 | _=>False
def ResOk (X:Map) (w:World) (id:Nat):Option Res→Prop
 | none=>X.mb id=none∧∀ n,X.mt id n=none
 | some .dead=>True
 | some (.box cs)=>∃ b vs e,X.mb id=some b∧w.heap[b]? = some (.cells vs e (0,0))∧vs.size=cs.length∧(∀ o,X.M b o=none) ∧
   (∀ j c,cs[j]? = some c→R X c (vs.getD j Go.undef))∧(∀ v∈vs,v.oneCell'=true)∧∀ n,X.mt id n=none
 | some (.row e sz n cs)=>∃ b cap vs,X.mt id n=some (b,cap)∧n≤cap∧cap≤maxLen∧w.heap[b]? = some (.cells vs e (0,0))∧vs.size=cap*sz ∧
   (∀ o,X.M b o=none)∧(∀ k,n < k→X.mt id k=none)∧X.mb id=none∧0 < sz∧cs.length=n*sz∧(∀ j c,cs[j]? = some c→R X c (vs.getD j Go.undef))∧∀ v∈vs,v.oneCell'=true
theorem ResOk.lt {X:Map} {w:World} {id b:Nat} {r:Option Res} (h:ResOk X w id r) (ho:Owns X id b r):b < w.heap.size:=by
 cases r with
 | none=>exact ho.elim
 | some r =>
  cases r with
  | dead=>exact ho.elim
  | box cs =>
   obtain ⟨b',vs,e,h1,h2,_⟩:=h
   have ho':X.mb id=some b:=ho
   rw [h1] at ho';cases ho'
   exact (Array.getElem?_eq_some_iff.1 h2).1
  | row e sz n cs =>
   obtain ⟨b',cap,vs,h1,_,_,h2,_⟩:=h
   obtain ⟨cap',ho'⟩:=ho
   rw [h1] at ho';cases ho'
   exact (Array.getElem?_eq_some_iff.1 h2).1
structure Post (X X':Map) (w w':World) (s s':Nat→Option Res) (W:Nat→Prop):Prop where
 le:X.Le X'
 ok:X'.Ok w'
 grow:w.heap.size≤w'.heap.size
 os:w'.os=w.os
 tape:w'.tape=w.tape
 output:w'.output=w.output
 keep:∀ k,k < w.heap.size→(∀ id,W id→¬ Owns X id k (s id))→w'.heap[k]? = w.heap[k]?
 fresh:∀ b o v,X'.M b o=some v→X.M b o=some v∨(∃ id,W id∧Owns X id b (s id))∨w.heap.size≤b
 ids:∀ id,¬ W id→X'.mb id=X.mb id∧X'.mt id=X.mt id
 res:∀ id,W id→ResOk X' w' id (s' id)
 own:∀ id b,W id→Owns X' id b (s' id)→Owns X id b (s id)∨w.heap.size≤b
 dis:∀ i j b,W i→W j→Owns X' i b (s' i)→Owns X' j b (s' j)→i=j
structure Inv (X:Map) (w:World) (s:Nat→Option Res):Prop where
 ok:X.Ok w
 res:∀ id,ResOk X w id (s id)
 dis:∀ i j b,Owns X i b (s i)→Owns X j b (s j)→i=j
theorem Owns.congr {X X':Map} {id b:Nat} {r:Option Res} (h1:X'.mb id=X.mb id) (h2:X'.mt id=X.mt id) (h:Owns X' id b r):Owns X id b r:=by
 cases r with
 | none=>exact h
 | some r =>
  cases r with
  | dead=>exact h
  | box cs=>have h':X'.mb id=some b:=h;exact (h1.symm.trans h':X.mb id=some b)
  | row e sz n cs=>obtain ⟨c,hc⟩:=h;exact ⟨c,by rw [← h2];exact hc⟩
theorem ResOk.keep {X X':Map} {w w':World} {id:Nat} {r:Option Res} (h:ResOk X w id r) (hle:X.Le X') (h1:X'.mb id=X.mb id) (h2:X'.mt id=X.mt id)
  (hk:∀ b,Owns X id b r→w'.heap[b]? = w.heap[b]?) (hf:∀ b o v,Owns X id b r→X'.M b o=some v→X.M b o=some v):ResOk X' w' id r:=by
 cases r with
 | none=>exact ⟨h1.trans h.1,fun n=>by rw [h2];exact h.2 n⟩
 | some r =>
  cases r with
  | dead=>trivial
  | box cs =>
   obtain ⟨b,vs,e,a1,a2,a3,a4,a5,a6,a7⟩:=h
   refine ⟨b,vs,e,hle.mb _ _ a1,(hk b a1).trans a2,a3,fun o=>?_,fun j c hc=>(a5 j c hc).mono hle,a6,fun n=>by rw [h2];exact a7 n⟩
   cases hv:X'.M b o with
   | none=>rfl
   | some v=>have:=hf b o v a1 hv;rw [a4] at this;cases this
  | row e sz n cs =>
   obtain ⟨b,cap,vs,a1,a2,a3,a4,a5,a6,a7,a8,a9,b1,b2,b3⟩:=h
   refine ⟨b,cap,vs,hle.mt _ _ _ a1,a2,a3,(hk b ⟨cap,a1⟩).trans a4,a5,fun o=>?_,fun k hkn=>by rw [h2];exact a7 k hkn,h1.trans a8,a9,b1,fun j c hc=>(b2 j c hc).mono hle,b3⟩
   cases hv:X'.M b o with
   | none=>rfl
   | some v=>have:=hf b o v ⟨cap,a1⟩ hv;rw [a6 o] at this;cases this
theorem Inv.post {X X':Map} {w w':World} {s s':Nat→Option Res} {W:Nat→Prop} (h:Inv X w s) (p:Post X X' w w' s s' W) (hs:∀ id,¬ W id→s' id=s id):Inv X' w' s':=by
 refine ⟨p.ok,fun id=>?_,fun i j b hi hj=>?_⟩
 ·by_cases hw:W id
  ·exact p.res id hw
  ·rw [hs id hw]
   obtain ⟨i1,i2⟩:=p.ids id hw
   refine (h.res id).keep p.le i1 i2 (fun b ho=>p.keep b ((h.res id).lt ho) fun id' hw' ho'=>?_) (fun b o v ho hv=>?_)
   ·exact hw (h.dis id id' b ho ho' ▸ hw')
   ·rcases p.fresh b o v hv with h'|⟨id',hw',ho'⟩|h'
    ·exact h'
    ·exact (hw (h.dis id id' b ho ho' ▸ hw')).elim
    ·exact absurd ((h.res id).lt ho) (by omega)
 ·by_cases hwi:W i
  ·by_cases hwj:W j
   ·exact p.dis i j b hwi hwj hi hj
   ·rw [hs j hwj] at hj
    obtain ⟨j1,j2⟩:=p.ids j hwj
    have hj':=Owns.congr j1 j2 hj
    rcases p.own i b hwi hi with h'|h'
    ·exact h.dis i j b h' hj'
    ·exact absurd ((h.res j).lt hj') (by omega)
  ·rw [hs i hwi] at hi
   obtain ⟨i1,i2⟩:=p.ids i hwi
   have hi':=Owns.congr i1 i2 hi
   by_cases hwj:W j
   ·rcases p.own j b hwj hj with h'|h'
    ·exact h.dis i j b hi' h'
    ·exact absurd ((h.res i).lt hi') (by omega)
   ·rw [hs j hwj] at hj
    obtain ⟨j1,j2⟩:=p.ids j hwj
    exact h.dis i j b hi' (Owns.congr j1 j2 hj)
open Go Go.RowKit
def ofScalar:Value→PV
 | .bool b=>.bool b
 | .int k n=>.int k n
 | .string s=>.str s.data.toList
 | .pointer none=>.nilptr
 | .slice none 0 0=>.nilslice
 | .nilFunc=>.nilfn
 | _=>.any
def ofConst:Value→PV
 | .agg vs=>if vs.all Value.oneCell' then .agg (vs.toList.map ofScalar) else .any
 | v=>ofScalar v
def lookupT:List (Nat × PV)→Nat→PV
 | [],_=>.any
 | (k,v)::r,t=>match Nat.beq k t with|true=>v|false=>lookupT r t
def putT (T:List (Nat × PV)) (d:Option Nat) (v:PV):List (Nat × PV):=match d with|some d=>(d,v)::T|none=>T
def gCells (g:Nat):PV:=match gArr g with|some a=>.ref (a.toList.map ofScalar)|none=>.any
def evalO (T:List (Nat × PV)):Operand→PV
 | .tmp t=>lookupT T t
 | .const v=>ofConst v
 | .global g=>gCells g
 | .func f=>.fn f [] []
structure Out where
 v:PV
 s:List Res
 rd:List Nat
 wr:List Nat
def setAt (cs:List PV) (off:Nat) (vs:List PV):List PV:=cs.take off++vs++cs.drop (off+vs.length)
def takeP (agg:Bool) (n:Nat) (cs:List PV):Option PV :=
 match agg with
 | true=>if n≤cs.length then some (.agg (cs.take n)) else none
 | false=>match cs with|c::_=>some c | []=>none
def loadP (s:List Res) (agg:Bool) (n:Nat):PV→Option (PV × List Nat)
 | .box id off=>match s[id]? with
  | some (.box cs)=>match takeP agg n (cs.drop off) with|some v=>some (v,[id])|none=>none
  | _=>none
 | .ref cs=>match takeP agg n cs with|some v=>some (v,[])|none=>none
 | .rp g k off=>match s[g]? with
  | some (.row _ _ k' cs)=>if k=k' then match takeP agg n (cs.drop off) with|some v=>some (v,[g])|none=>none else none
  | _=>none
 | _=>none
def storeP (s:List Res) (n:Nat) (p v:PV):Option (List Res × List Nat) :=
 match p,v.cells with
 | .box id off,some vs=>match s[id]? with
  | some (.box cs)=>if vs.length=n∧off+vs.length≤cs.length then some (s.set id (.box (setAt cs off vs)),[id]) else none
  | _=>none
 | .rp g k off,some vs=>match s[g]? with
  | some (.row e sz k' cs)=>if k=k'∧vs.length=n∧off+vs.length≤cs.length then some (s.set g (.row e sz k' (setAt cs off vs)),[g]) else none
  | _=>none
 | _,_=>none
def newBoxP (s:List Res) (v:PV):Option Out:=match v.cells with|some cs=>some ⟨.box s.length 0,s++[.box cs],[],[]⟩|none=>none
def fillP (place:Nat→Option (Nat × Nat)):List PV→List (Nat × PV)→Option (List PV)
 | cs,[]=>some cs
 | cs,(i,p)::rest=>match place i,p.cells with
  | some (off,sz),some vs=>if vs.length=sz∧off+vs.length≤cs.length then fillP place (setAt cs off vs) rest else none
  | _,_=>none
def chunkP (agg:Bool) (sz:Nat):Nat→List PV→List PV
 | 0,_=>[]
 | n+1,cs=>(if agg then .agg (cs.take sz) else cs.headD .any)::chunkP agg sz n (cs.drop sz)
section
variable (P:Program)
def aggP (t:TypeId):Bool:=match P.underlying t with|some (.struct _)|some (.array _ _)=>true|_=>false
def sizeP (t:TypeId):Option Nat:=match P.info? t,P.underlying t with|some i,some _=>some i.size|_,_=>none
def bytesP (t:TypeId):Nat:=match P.info? t with|some i=>i.bytes|none=>0
def zeroP (t:TypeId):Option PV:=match P.info? t with
 | some i=>match i.zero with|some z=>some (ofConst z)|none=>none
 | none=>none
def intP (op:BinOp) (k:IntKind) (a b:Int):Option PV :=
 match op with
 | .add=>some (.int k (k.wrap (a+b)))
 | .sub=>some (.int k (k.wrap (a - b)))
 | .mul=>some (.int k (k.wrap (a*b)))
 | .quo=>if b=0 then none else some (.int k (k.wrap (a.tdiv b)))
 | .rem=>if b=0 then none else some (.int k (a.tmod b))
 | .and=>some (.int k (k.wrap (BitVec.ofInt k.bits a &&& BitVec.ofInt k.bits b).toNat))
 | .or=>some (.int k (k.wrap (BitVec.ofInt k.bits a ||| BitVec.ofInt k.bits b).toNat))
 | .xor=>some (.int k (k.wrap (BitVec.ofInt k.bits a ^^^ BitVec.ofInt k.bits b).toNat))
 | .eql=>some (.bool (a==b))
 | .neq=>some (.bool (a != b))
 | .lss=>some (.bool (a < b))
 | .leq=>some (.bool (a≤b))
 | .gtr=>some (.bool (a > b))
 | .geq=>some (.bool (a≥b))
 | _=>none
def shiftP (op:BinOp) (k:IntKind) (x y:Int):Option PV :=
 if y < 0 then none else
 match op with
 | .shl=>some (.int k (k.wrap (x*2 ^ (min y.toNat k.bits))))
 | .shr=>some (.int k (x.fdiv (2 ^ (min y.toNat k.bits))))
 | _=>none
def strP (op:BinOp) (a b:List UInt8):Option PV :=
 match op with
 | .add=>if a.length+b.length≤9223372036854775807 then some (.str (a++b)) else none
 | .eql=>some (.bool (a==b))
 | .neq=>some (.bool (!(a==b)))
 | .lss=>some (.bool (Op.bytesLess a b))
 | .leq=>some (.bool (Op.bytesLess a b||a==b))
 | .gtr=>some (.bool (!(Op.bytesLess a b||a==b)))
 | .geq=>some (.bool (!Op.bytesLess a b))
 | _=>none
def eqFieldsP (eq:TypeId→PV→PV→Option Bool) (xs ys:List PV):List Field→Option Bool
 | []=>some true
 | f::fs =>
  if f.name ≠ "_" then
   match sizeP P f.type with
   | some n=>match takeP (aggP P f.type) n (xs.drop f.offset),takeP (aggP P f.type) n (ys.drop f.offset) with
    | some a,some b=>match eq f.type a b with
     | some true=>eqFieldsP eq xs ys fs
     | some false=>some false
     | none=>none
    | _,_=>none
   | none=>none
  else eqFieldsP eq xs ys fs
def eqP:Nat→TypeId→PV→PV→Option Bool
 | 0,_,_,_=>none
 | d+1,t,x,y =>
  match P.underlying t with
  | none=>none
  | some k=>match k,x,y with
   | .bool, .bool a, .bool b=>some (a==b)
   | .int _, .int k a, .int k' b=>if k=k' then some (a==b) else none
   | .string, .str a, .str b=>some (a==b)
   | .pointer _, .nilptr, .nilptr=>some true
   | .pointer _, .nilptr, .box _ _=>some false
   | .pointer _, .box _ _, .nilptr=>some false
   | .slice _, .nilslice, .nilslice=>some true
   | .slice _, .nilslice, .eslice=>some false
   | .slice _, .eslice, .nilslice=>some false
   | .slice _, .nilslice, .slice _ _=>some false
   | .slice _, .slice _ _, .nilslice=>some false
   | .slice _, .nilslice, .ms _ _=>some false
   | .slice _, .ms _ _, .nilslice=>some false
   | .func _ _ _, .nilfn, .nilfn=>some true
   | .func _ _ _, .nilfn, .fn _ _ _=>some false
   | .func _ _ _, .fn _ _ _, .nilfn=>some false
   | .struct fields, .agg xs, .agg ys=>if P.stoodInHeld t then none else eqFieldsP P (eqP d) xs ys fields.toList
   | _,_,_=>none
def binP (op:BinOp) (t:TypeId) (x y:PV):Option PV :=
 match op,x,y with
 | .shl, .int k a, .int _ b | .shr, .int k a, .int _ b=>shiftP op k a b
 | _, .int k a, .int k' b=>if k=k' then intP op k a b else none
 | _, .str a, .str b=>strP op a b
 | .eql,x,y=>if P.eqGuardType P.depth t then none else match eqP P 8 t x y with|some b=>some (.bool b)|none=>none
 | .neq,x,y=>if P.eqGuardType P.depth t then none else match eqP P 8 t x y with|some b=>some (.bool !b)|none=>none
 | _,_,_=>none
def unP (op:UnOp) (x:PV):Option PV :=
 match op,x with
 | .neg, .int k n=>some (.int k (k.wrap (0 - n)))
 | .not, .bool b=>some (.bool !b)
 | .xor, .int k n=>intP .xor k (if k.signed then -1 else k.max) n
 | _,_=>none
def bytesOf:List PV→Option (List UInt8)
 | []=>some []
 | .int .u8 n::r=>match bytesOf r with|some l=>some (UInt8.ofNat n.toNat::l)|none=>none
 | _=>none
def convP (src dst:TypeId) (x:PV):Option PV :=
 match P.underlying src,P.underlying dst with
 | some s,some d=>match s,d,x with
  | .int _, .int k, .int _ n=>some (.int k (k.wrap n))
  | .string, .string, .str l=>some (.str l)
  | .slice e, .string,x=>match P.underlying e with
   | some (.int .u8)=>match x with
    | .nilslice=>some (.str [])
    | .slice 1 xs=>match bytesOf xs with|some l=>some (.str l)|none=>none
    | _=>none
   | _=>none
  | _,_,_=>none
 | _,_=>none
def boundP (x:PV) (y:Nat):Option Nat:=match x with | .int _ i=>if 0≤i∧i≤y then some i.toNat else none|_=>none
def optBound (o:Option PV) (y d:Nat):Option Nat:=match o with|some v=>boundP v y|none=>some d
def boundsP (len:Nat) (lo hi:Option PV):Option (Nat × Nat) :=
 match optBound hi len len with
 | some h=>match optBound lo h 0 with|some l=>some (l,h)|none=>none
 | none=>none
def sliceP (t:TypeId) (x:PV) (lo hi:Option PV):Option PV :=
 match P.underlying t with
 | some .string=>match x with
  | .str s=>match boundsP s.length lo hi with|some (l,h)=>some (.str ((s.take h).drop l))|none=>none
  | _=>none
 | some (.slice e)=>match x with
  | .slice sz xs=>match boundsP xs.length lo hi with
   | some (l,h)=>if sizeP P e=some sz then some (.slice sz ((xs.take h).drop l)) else none
   | none=>none
  | .nilslice=>match boundsP 0 lo hi,sizeP P e with|some _,some _=>some .nilslice|_,_=>none
  | _=>none
 | _=>none
def fieldAddrP (t:TypeId) (x:PV) (f:Nat):Option PV :=
 match P.underlying t with
 | some (.struct fs)=>match fs[f]? with
  | some fd=>match sizeP P fd.type with
   | some (_+1)=>match x with
    | .box id off=>some (.box id (off+fd.offset))
    | .ref cs=>some (.ref (cs.drop fd.offset))
    | .rp g n off=>some (.rp g n (off+fd.offset))
    | _=>none
   | _=>none
  | none=>none
 | _=>none
def fieldP (t:TypeId) (x:PV) (f:Nat):Option PV :=
 match P.underlying t with
 | some (.struct fs)=>match fs[f]? with
  | some fd=>match x,sizeP P fd.type with
   | .agg cs,some n=>takeP (aggP P fd.type) n (cs.drop fd.offset)
   | _,_=>none
  | none=>none
 | _=>none
def indexAddrP (t:TypeId) (x i:PV):Option PV :=
 match P.underlying t with
 | some (.slice e)=>match x,i with
  | .slice sz xs, .int _ i=>if sizeP P e=some sz∧0≤i then match xs[i.toNat]? with|some c=>some (.ref c.cellsD)|none=>none else none
  | .ms g n, .int _ i=>match sizeP P e with|some sz=>if 0≤i∧i < n then some (.rp g n (i.toNat*sz)) else none|none=>none
  | _,_=>none
 | some (.array n e)=>match x,i with
  | .ref cs, .int _ i=>match sizeP P e with|some sz=>if 0≤i∧i < n then some (.ref (cs.drop (i.toNat*sz))) else none|none=>none
  | .box id off, .int _ i=>match sizeP P e with|some sz=>if 0≤i∧i < n then some (.box id (off+i.toNat*sz)) else none|none=>none
  | _,_=>none
 | _=>none
def indexP (t:TypeId) (x i:PV):Option PV :=
 match P.underlying t with
 | some .string=>match x,i with
  | .str s, .int _ i=>if 0≤i then match s[i.toNat]? with|some b=>some (.int .u8 b.toNat)|none=>none else none
  | _,_=>none
 | _=>none
def placeP (fs:Array Field) (i:Nat):Option (Nat × Nat):=match fs[i]? with|some f=>(match sizeP P f.type with|some n=>some (f.offset,n)|none=>none)|none=>none
def buildP (t:TypeId) (parts:List (Nat × PV)):Option PV :=
 match P.underlying t with
 | some (.struct fs)=>match zeroP P t with
  | some (.agg z) =>
   match fillP (placeP P fs) z parts with
   | some cs=>if fs.all (fun f=>(sizeP P f.type).isSome) then some (.agg cs) else none
   | none=>none
  | _=>none
 | _=>none
def zeroCellsP (zs:List PV) (n sz:Nat):List PV:=(List.range (n*sz)).map fun j=>zs.getD (j % zs.length) .any
def buildSliceP (t:TypeId) (n:Nat) (parts:List (Nat × PV)):Option PV :=
 match P.underlying t with
 | some (.slice e)=>match sizeP P e,zeroP P e with
  | some sz,some z=>match z.cells with
   | some zs =>
    if n*sz≤16777216∧0 < sz∧zs.length=sz∧(aggP P e||sz==1)=true then
     match fillP (fun i=>some (i*sz,sz)) (zeroCellsP zs n sz) parts with
     | some cs=>if cs.all PV.clean then some (.slice sz (chunkP (aggP P e) sz n cs)) else none
     | none=>none
    else none
   | none=>none
  | _,_=>none
 | _=>none
def zeroOkP (e:TypeId) (sz:Nat):Bool:=match zeroP P e with|some z=>(match z.cells with|some zs=>zs.length==sz|none=>false)|none=>false
def ownSliceP (s:List Res) (t:TypeId) (n:Nat) (parts:List (Nat × PV)):Option Out :=
 match P.underlying t with
 | some (.slice e)=>match sizeP P e,zeroP P e with
  | some sz,some z=>match z.cells with
   | some zs =>
    if n*sz≤16777216∧0 < sz∧zs.length=sz∧n≤maxLen then
     match fillP (fun i=>some (i*sz,sz)) (zeroCellsP zs n sz) parts with
     | some cs=>some ⟨.ms s.length n,s++[.row e sz n cs],[],[]⟩
     | none=>none
    else none
   | none=>none
  | _,_=>none
 | _=>none
def makeSliceP (s:List Res) (t:TypeId) (l c:PV):Option Out :=
 match l,c with
 | .int _ n, .int _ m=>if n=m∧0≤n∧n≤1048576 then (match P.underlying t with
  | some (.slice e)=>if bytesP P e≤1048576 then ownSliceP P s t n.toNat [] else none
  | _=>none) else none
 | _,_=>none
def appendP (s:List Res) (t:TypeId) (a b:PV):Option Out :=
 match P.underlying t with
 | some (.slice e)=>match sizeP P e,b with
  | some sz, .slice sy ys =>
   if 0 < sz∧sy=sz∧zeroOkP P e sz=true then
    match a with
    | .nilslice=>if ys.isEmpty=false∧ys.length≤maxLen∧ys.length*bytesP P e≤140737488355328 then some ⟨.ms s.length ys.length,s++[.row e sz ys.length (ys.flatMap PV.cellsD)],[],[]⟩ else none
    | .ms g n=>match s[g]? with
     | some (.row et st n' cs) =>
      if et=e∧st=sz∧n'=n∧n+ys.length≤maxLen∧(n+ys.length)*bytesP P e≤140737488355328 then
       some ⟨.ms g (n+ys.length),s.set g (.row e sz (n+ys.length) (cs++ys.flatMap PV.cellsD)),[],[g]⟩
      else none
     | _=>none
    | _=>none
   else none
  | _,_=>none
 | _=>none
def rowBytesP (s:List Res) (src dst:TypeId) (g n:Nat):Option Out :=
 match P.underlying src,P.underlying dst with
 | some (.slice e),some .string=>match P.underlying e,s[g]? with
  | some (.int .u8),some (.row _ 1 n' cs)=>if n=n' then match bytesOf cs with|some l=>some ⟨.str l,s,[g],[]⟩|none=>none else none
  | _,_=>none
 | _,_=>none
def lenP (t:TypeId) (x:PV):Option PV :=
 match P.underlying t with
 | some .string=>match x with | .str s=>some (.int .i64 s.length)|_=>none
 | some (.slice _)=>match x with | .slice _ xs=>some (.int .i64 xs.length) | .ms _ n=>some (.int .i64 n) | .nilslice=>some (.int .i64 0) | .eslice=>some (.int .i64 0)|_=>none
 | _=>none
def pureP (s:List Res) (o:Option PV):Option Out:=match o with|some v=>some ⟨v,s,[],[]⟩|none=>none
def refs0:PV→List Nat
 | .box id _=>[id]
 | _=>[]
def refs1:PV→List Nat
 | .box id _=>[id]
 | .fn _ a b=>a.flatMap refs0++b.flatMap refs0
 | .agg cs=>cs.flatMap refs0
 | _=>[]
def refs2:PV→List Nat
 | .tup vs=>vs.flatMap refs1
 | v=>refs1 v
def addNew (l:List Nat) (x:Nat):List Nat:=if l.contains x then l else l++[x]
def refsOf (s:List Res) (l:List Nat):List Nat:=l.flatMap fun (id:Nat)=>match (s[id]?:Option Res) with|some (Res.box cs)=>cs.flatMap refs1|_=>[]
def reach (s:List Res):Nat→List Nat→List Nat
 | 0,l=>l
 | n+1,l=>match refsOf s l with | []=>l|r=>reach s n (r.foldl addNew l)
def posOf (x:Nat):List Nat→Option Nat
 | []=>none
 | y::l=>if y=x then some 0 else match posOf x l with|some j=>some (j+1)|none=>none
def nodupB:List Nat→Bool
 | []=>true
 | x::l=>!l.contains x&&nodupB l
def ren0 (f:Nat→Option Nat):PV→PV
 | .box id off=>match f id with|some j=>.box j off|none=>.any
 | .ms _ _ | .rp _ _ _=>.any
 | .fn g a b=>if a.isEmpty&&b.isEmpty then .fn g a b else .any
 | .agg _ | .tup _=>.any
 | v=>v
def ren1 (f:Nat→Option Nat):PV→PV
 | .agg cs=>.agg (cs.map (ren0 f))
 | .fn g a b=>.fn g (a.map (ren0 f)) (b.map (ren0 f))
 | v=>ren0 f v
def ren2 (f:Nat→Option Nat):PV→PV
 | .tup vs=>.tup (vs.map (ren1 f))
 | v=>ren1 f v
def renRes (f:Nat→Option Nat):Res→Res
 | .box cs=>.box (cs.map (ren1 f))
 | _=>.dead
def upds (s:List Res):List Nat→List Res→List Res
 | id::ids,r::rs=>upds (s.set id r) ids rs
 | _,_=>s
abbrev Self:=FuncId→List PV→List Res→Option (PV × List Res)
def passed (s:List Res) (f:Nat→Option Nat):List Nat→Option (List Res)
 | []=>some []
 | id::ids=>match s[id]? with
  | some (.box cs)=>match passed s f ids with|some r=>some (.box (cs.map (ren1 f))::r)|none=>none
  | _=>none
def callP0 (self:Self) (s:List Res) (g:FuncId) (args:List PV):Option Out :=
 let ids:=reach s 4 ((args.flatMap refs1).foldl addNew [])
 match nodupB ids with
 | false=>none
 | true=>match passed s (fun id=>posOf id ids) ids with
  | none=>none
  | some s0=>match self g (args.map (ren1 fun id=>posOf id ids)) s0 with
   | none=>none
   | some (r,s1) =>
    let m:=ids.length
    let imp:=(refs2 r).any (m ≤ ·)
    let back:=fun j=>if j < m then ids[j]? else if imp then some (s.length+(j - m)) else none
    let r':=ren2 back r
    match ids,imp with
    | [],false=>some ⟨r',s,[],[]⟩
    | _,_=>some ⟨r',upds s ids ((s1.take m).map (renRes back))++(if imp then (s1.drop m).map (renRes back) else []),ids,ids⟩
def see0 (m:Nat) (s:List Res):PV→PV
 | .ms g n=>match s[g]? with
  | some (.row e sz n' cs)=>if m≤g∧n=n'∧(aggP P e||sz==1)=true∧cs.all PV.clean=true then .slice sz (chunkP (aggP P e) sz n cs) else .any
  | _=>.any
 | v=>v
def see1 (m:Nat) (s:List Res):PV→PV
 | .agg cs=>.agg (cs.map (see0 P m s))
 | v=>see0 P m s v
def see2 (m:Nat) (s:List Res):PV→PV
 | .tup vs=>.tup (vs.map (see1 P m s))
 | v=>see1 P m s v
def seeRes (m:Nat) (s:List Res):Res→Res
 | .box cs=>.box (cs.map (see0 P m s))
 | x=>x
def rows0:PV→List Nat
 | .ms g _=>[g]
 | _=>[]
def rows1:PV→List Nat
 | .agg cs=>cs.flatMap rows0
 | v=>rows0 v
def rowsIn (s:List Res) (l:List Nat):List Nat:=l.flatMap fun (id:Nat)=>match (s[id]?:Option Res) with|some (Res.box cs)=>cs.flatMap rows1|_=>[]
def flat0:PV→Bool
 | .undef | .any | .bool _ | .int _ _ | .str _ | .nilptr | .box _ _ | .nilslice | .eslice | .nilfn=>true
 | .atom j=>Nat.ble 1000 j
 | _=>false
def flat1:PV→Bool
 | .agg cs=>cs.all flat0
 | v=>flat0 v
def flat2:PV→Bool
 | .tup vs=>vs.all flat1
 | v=>flat1 v
def flatRes:Res→Bool
 | .box cs=>cs.all flat1
 | .dead=>true
 | _=>false
def kill:List Nat→List Res→List Res
 | [],s=>s
 | g::l,s=>kill l (s.set g .dead)
def mergeS (wr:List Nat) (s0:List Res):Nat→List Res→List Res
 | _,[]=>[]
 | i,x::l=>(if wr.contains i then s0.getD i .dead else x)::mergeS wr s0 (i+1) l
def callP (self:Self) (s:List Res) (g:FuncId) (args:List PV):Option Out :=
 match args.flatMap rows1++rowsIn s (reach s 4 ((args.flatMap refs1).foldl addNew [])) with
 | []=>callP0 self s g args
 | r0::rows=>match callP0 self (s.map (seeRes P 0 s)) g (args.map (see1 P 0 s)) with
  | none=>none
  | some out =>
   if (rowsIn s out.wr).all (r0::rows).contains then
    let s':=mergeS out.wr out.s 0 s++out.s.drop s.length
    if flat2 out.v&&out.wr.all (fun id=>flatRes (out.s.getD id .dead))&&(out.s.drop s.length).all flatRes then some ⟨out.v,s',out.wr++(r0::rows),out.wr⟩
    else some ⟨out.v,kill (r0::rows) s',out.wr,out.wr++(r0::rows)⟩
   else none
structure St where
 T:List (Nat × PV)
 s:List Res
inductive Ex where
 | normal
 | exit (id:Nat)
 | goto (l:Nat)
 | ret
structure Orc where
 prim:FuncId→List PV→Option PV
 op:Op→List PV→Option PV
 own:TypeId→Nat→Bool:=fun _ _=>false
 row:FuncId→List PV→Option (TypeId × Nat × Nat × List PV):=fun _ _=>none
 st:FuncId→List PV→List Res→Option (PV × List Res):=fun _ _ _=>none
 loop:FuncId→Nat→St→Option (Ex × St):=fun _ _ _=>none
def stepOp (own:TypeId→Nat→Bool) (self:Self) (s:List Res) (ev:Operand→PV) (o:Op):Option Out :=
 match o with
 | .move x | .assign x=>some ⟨ev x,s,[],[]⟩
 | .pick c a b=>match ev c with | .bool t=>some ⟨if t then ev a else ev b,s,[],[]⟩|_=>none
 | .alloc t=>match zeroP P t with|some z=>newBoxP s z|none=>none
 | .box _ x=>newBoxP s (ev x)
 | .build t parts=>pureP s (buildP P t (parts.toList.map fun p=>(p.1,ev p.2)))
 | .buildSlice t n parts=>match own t n with
  | true=>ownSliceP P s t n (parts.toList.map fun p=>(p.1,ev p.2))
  | false=>pureP s (buildSliceP P t n (parts.toList.map fun p=>(p.1,ev p.2)))
 | .makeSlice t l c=>makeSliceP P s t (ev l) (ev c)
 | .load t a=>match sizeP P t with
  | some n=>match loadP s (aggP P t) n (ev a) with|some (v,rd)=>some ⟨v,s,rd,[]⟩|none=>none
  | none=>none
 | .store t a x=>match sizeP P t with
  | some n=>match storeP s n (ev a) (ev x) with|some (s',wr)=>some ⟨.undef,s',[],wr⟩|none=>none
  | none=>none
 | .nilCheck x=>match ev x with
  | .box id off=>some ⟨.box id off,s,[],[]⟩
  | .ref cs=>some ⟨.ref cs,s,[],[]⟩
  | .rp g n off=>some ⟨.rp g n off,s,[],[]⟩
  | .fn g a b=>some ⟨.fn g a b,s,[],[]⟩
  | _=>none
 | .binOp op t x y _=>pureP s (binP P op t (ev x) (ev y))
 | .unOp op _ x=>pureP s (unP op (ev x))
 | .convert src dst x=>match ev x with
  | .ms g n=>rowBytesP P s src dst g n
  | v=>pureP s (convP P src dst v)
 | .makeFunc (.func g) first captured=>some ⟨.fn g (first.toList.map ev) (captured.toList.map ev),s,[],[]⟩
 | .slice t x lo hi none=>pureP s (sliceP P t (ev x) (lo.map ev) (hi.map ev))
 | .fieldAddr t x f=>pureP s (fieldAddrP P t (ev x) f)
 | .field t x f=>pureP s (fieldP P t (ev x) f)
 | .indexAddr t x i=>pureP s (indexAddrP P t (ev x) (ev i))
 | .index t x i=>pureP s (indexP P t (ev x) (ev i))
 | .extract x i=>match ev x with | .tup vs=>pureP s vs[i]?|_=>none
 | .call c=>match c.callee,c.args.toList with
  | .builtin .len,[x]=>match c.argTypes[0]? with|some t=>pureP s (lenP P t (ev x))|none=>none
  | .builtin .append,[a,b]=>match c.argTypes.toList with | [t,t']=>if t=t' then appendP P s t (ev a) (ev b) else none|_=>none
  | .builtin .max,[x,y]=>match ev x,ev y with | .int k a, .int _ b=>some ⟨.int k (if b > a then b else a),s,[],[]⟩|_,_=>none
  | .builtin .min,[x,y]=>match ev x,ev y with | .int k a, .int _ b=>some ⟨.int k (if b < a then b else a),s,[],[]⟩|_,_=>none
  | .value f,args=>match ev f with
   | .fn g first captured=>callP P self s g (first++args.map ev++captured)
   | _=>none
  | _,_=>none
 | _=>none
def wantedP (ops:List Oper) (T:List (Nat × PV)) (o:Oper):Option Bool :=
 match o.guard with
 | none=>some true
 | some (j,want)=>match ops[j]? with
  | some oj=>match oj.dst with
   | some d=>match lookupT T d with
    | .bool b=>some (b==want)
    | .undef=>some false
    | _=>none
   | none=>some false
  | none=>some false
def rowCall (O:Orc) (s:List Res) (ev:Operand→PV) (o:Op):Option Out :=
 match o with
 | .call c=>match c.callee with
  | .value f=>match ev f with
   | .fn g [] []=>match O.row g (c.args.toList.map ev) with
    | some (e,sz,n,cs)=>some ⟨.ms s.length n,s++[.row e sz n cs],[],[]⟩
    | none=>none
   | _=>none
  | _=>none
 | _=>none
def stepO (O:Orc) (self:Self) (s:List Res) (ev:Operand→PV) (o:Op):Option Out :=
 match rowCall O s ev o with
 | some out=>some out
 | none=>match stepOp P O.own self s ev o with
  | some out=>some out
  | none=>match O.op o (o.operands.toList.map ev) with
   | some p=>some ⟨p,s,[],[]⟩
   | none=>none
def stepAt (O:Orc) (self:Self) (ops:List Oper) (o:Oper) (st:St):Option (St × List Nat × List Nat) :=
 match wantedP ops st.T o with
 | some true=>match stepO P O self st.s (evalO st.T) o.op with
  | some out=>some (⟨putT st.T o.dst out.v,out.s⟩,out.rd,out.wr)
  | none=>none
 | some false=>some (⟨putT st.T o.dst .undef,st.s⟩,[],[])
 | none=>none
def runList (O:Orc) (self:Self) (ops:List Oper):List Oper→St→Option St
 | [],st=>some st
 | o::r,st=>match stepAt P O self ops o st with|some (st',_)=>runList O self ops r st'|none=>none
def masks:List Oper→List Nat→List Nat
 | [],acc=>acc
 | o::r,acc=>masks r (acc++[o.after.toList.foldl (fun m e=>if Region.binds .any e then m ||| 2 ^ e.on ||| acc.getD e.on 0 else m) 0])
def meets (a b:List Nat):Bool:=a.any b.contains
def created (n n':Nat):List Nat:=(List.range (n' - n)).map (n + ·)
def runDrawn (O:Orc) (self:Self) (ops:List Oper):List Oper→Nat→List (Nat × List Nat × List Nat)→St→Option St
 | [],_,_,st=>some st
 | o::r,i,acc,st=>match stepAt P O self ops o st with
  | some (st',rd,wr) =>
   let wr:=wr++created st.s.length st'.s.length
   match rd,wr with
   | [],[]=>runDrawn O self ops r (i+1) acc st'
   | _,_ =>
    if acc.all (fun x=>!(meets x.2.2 rd||meets x.2.2 wr||meets x.2.1 wr)||((masks ops []).getD i 0).testBit x.1) then
     runDrawn O self ops r (i+1) ((i,rd,wr)::acc) st'
    else none
  | none=>none
def keysOf (T:List (Nat × PV)):List Nat:=T.foldr (fun p l=>if l.contains p.1 then l else p.1::l) []
def keepT (K:List Nat) (T:List (Nat × PV)):List (Nat × PV):=K.map fun k=>(k,lookupT T k)
def loopJ (body:St→Option (Ex × St)) (K:List Nat):Nat→St→Option (Ex × St)
 | 0,_=>none
 | n+1,st=>match body ⟨keepT K st.T,st.s⟩ with
  | some (.normal,st')=>loopJ body K n st'
  | r=>r
def scopeJ (again:Code→St→Option (Ex × St)) (b:Code):Nat→Ex→St→Option (Ex × St)
 | 0, .goto _,_=>none
 | n+1, .goto l,st=>match findLabel b l with
  | some rest=>match again rest st with|some (e,st')=>scopeJ again b n e st'|none=>none
  | none=>none
 | _, .normal,st=>some (.normal,st)
 | _, .exit id,st=>some (.exit id,st)
 | _, .ret,st=>some (.ret,st)
def loopsIn:Code→List Code
 | .seq a b=>loopsIn a++loopsIn b
 | .cond _ a b=>loopsIn a++loopsIn b
 | .block _ b=>loopsIn b
 | .loop b=>b::loopsIn b
 | .scope b=>loopsIn b
 | _=>[]
def firstId:Code→Nat
 | .region id _ _=>id
 | .seq a b=>match firstId a with|0=>firstId b|n+1=>n+1
 | .cond _ a b=>match firstId a with|0=>firstId b|n+1=>n+1
 | .block _ b=>firstId b
 | .loop b=>firstId b
 | .scope b=>firstId b
 | _=>0
def execC (O:Orc) (self:Self) (L:Nat→St→Option (Ex × St)) (again:Code→St→Option (Ex × St)) (n:Nat):Code→St→Option (Ex × St)
 | .skip,st=>some (.normal,st)
 | .region _ ops false,st=>match runList P O self ops.toList ops.toList st with|some st'=>some (.normal,st')|none=>none
 | .region _ ops true,st=>match runDrawn P O self ops.toList ops.toList 0 [] st with|some st'=>some (.normal,st')|none=>none
 | .seq a b,st=>match execC O self L again n a st with
  | some (.normal,st')=>execC O self L again n b st'
  | r=>r
 | .cond c a b,st=>match evalO st.T c with
  | .bool true=>execC O self L again n a st
  | .bool false=>execC O self L again n b st
  | _=>none
 | .block id b,st=>match execC O self L again n b st with
  | some (.exit id',st')=>if id'=id then some (.normal,st') else some (.exit id',st')
  | r=>r
 | .loop b,st=>match L (firstId b) st with
  | some r=>some r
  | none=>loopJ (execC O self L again n b) (keysOf st.T) n st
 | .scope b,st=>match execC O self L again n b st with|some (e,st')=>scopeJ again b n e st'|none=>none
 | .exit id,st=>some (.exit id,st)
 | .label _,st=>some (.normal,st)
 | .goto l,st=>some (.goto l,st)
 | .ret,st=>some (.ret,st)
 | _,_=>none
def execN (O:Orc) (self:Self) (L:Nat→St→Option (Ex × St)) (n:Nat):Nat→Code→St→Option (Ex × St)
 | 0=>fun _ _=>none
 | k+1=>execC P O self L (execN O self L n k) n
def resultP (s:List Res) (T:List (Nat × PV)):List ResultVar→Option (List PV)
 | []=>some []
 | .tmp t::r=>match resultP s T r with|some l=>some (lookupT T t::l)|none=>none
 | .cell a t::r=>match sizeP P t with
  | some n=>match loadP s (aggP P t) n (lookupT T a),resultP s T r with
   | some (v,_),some l=>some (v::l)
   | _,_=>none
  | none=>none
def argsT:Nat→List PV→List (Nat × PV)
 | _,[]=>[]
 | i,v::r=>(i,v)::argsT (i+1) r
def bodyOf (f:FuncId):Option (Func × Code):=match P.funcs[f]? with|some fn=>(match fn.body with|some c=>some (fn,c)|none=>none)|none=>none
def idm (m:Nat) (j:Nat):Option Nat:=if j < m then some j else none
def keepRes (f:Nat→Option Nat):Res→Res
 | .box cs=>.box (cs.map (ren1 f))
 | .row e sz n cs=>.row e sz n (cs.map (ren1 f))
 | .dead=>.dead
def settleS (P:Program) (m:Nat) (s:List Res):Nat→List Res→List Res
 | _,[]=>[]
 | i, .row e sz n cs::l=>(if m≤i then .dead else .row e sz n cs)::settleS P m s (i+1) l
 | i, .box cs::l=>.box (cs.map (see0 P m s))::settleS P m s (i+1) l
 | i, .dead::l=>.dead::settleS P m s (i+1) l
def normT (m:Nat) (q:PV × List Res):PV × List Res :=
 match (refs2 q.1).any (m ≤ ·) with
 | true=>q
 | false=>(ren2 (idm m) q.1,(q.2.take m).map (keepRes (idm m)))
def normS (P:Program) (m:Nat) (q:PV × List Res):PV × List Res:=normT m (see2 P m q.2 q.1,settleS P m q.2 0 q.2)
def fin (P:Program) (fn:Func):Option (Ex × St)→Option (PV × List Res)
 | some (.normal,st)|some (.ret,st)=>match resultP P st.s st.T fn.results.toList with
  | some [v]=>some (v,st.s)
  | some l=>some (.tup l,st.s)
  | none=>none
 | _=>none
def callB (O:Orc) (self:Self) (k:Nat) (f:FuncId) (args:List PV) (s:List Res):Option (PV × List Res) :=
 match O.prim f args with
 | some v=>some (v,s)
 | none=>match bodyOf P f with
  | some (fn,c)=>fin P fn (execN P O self (O.loop f) k 3 c ⟨argsT 0 args,s⟩)
  | none=>none
def callF (O:Orc):Nat→Self
 | 0,_,_,_=>none
 | k+1,f,args,s=>match O.st f args s with
  | some q=>some q
  | none=>match O.row f args with
  | some (e,sz,n,cs)=>some (.ms s.length n,s++[.row e sz n cs])
  | none=>match callB P O (callF O k) k f args s with
   | some q=>some (normS P s.length q)
   | none=>none
end
open Go Go.RowKit
theorem R_ofScalar (X:Map) (v:Value):R X (ofScalar v) v:=by
 unfold ofScalar
 split
 ·exact .bool _
 ·exact .int _ _
 ·exact .str _
 ·exact .nilptr
 ·exact .nilslice
 ·exact .nilfn
 ·exact .any _
theorem R_ofConst (X:Map) (v:Value):R X (ofConst v) v:=by
 unfold ofConst
 split
 ·rename_i vs
  split
  ·rename_i h
   refine .agg _ _ (by simp) (fun j c hc=>?_) (fun v hv=>?_)
   ·simp only [List.getElem?_map,Option.map_eq_some_iff] at hc
    obtain ⟨v,hv,rfl⟩:=hc
    have:vs.getD j undef=v:=by
     simp only [Array.getD_eq_getD_getElem?]
     simp at hv
     simp [hv]
    rw [this]
    exact R_ofScalar X v
   ·have:=(Array.all_eq_true_iff_forall_mem.1 h) v hv
    exact this
  ·exact .any _
 ·exact R_ofScalar X _
theorem lookupT_cons (k t:Nat) (v:PV) (r:List (Nat × PV)):lookupT ((k,v)::r) t=if k=t then v else lookupT r t:=by
 show (match Nat.beq k t with|true=>v|false=>lookupT r t)=_
 by_cases h:k=t
 ·subst h;simp
 ·have:Nat.beq k t=false:=by
   cases hb:Nat.beq k t with
   | false=>rfl
   | true=>exact absurd (Nat.eq_of_beq_eq_true hb) h
  rw [this,if_neg h]
theorem R_global {X:Map} {w:World} (hok:X.Ok w) (g:Nat):R X (gCells g) (.pointer (some ⟨g,0,none⟩)):=by
 unfold gCells
 split
 ·rename_i a ha
  obtain ⟨arr,e,fr,h1,h2,h3,h4⟩:=hok.2 g (by simp [gIs,ha])
  rw [ha] at h4
  have h4':arr=a:=h4
  subst h4'
  have hone:=gArr_one g _ ha
  have hget:∀ (j:Nat) c,(arr.toList.map ofScalar)[j]? = some c→arr[j]? = some (arr.getD j Go.undef)∧c=ofScalar (arr.getD j Go.undef):=fun j c hc=>by
   simp only [List.getElem?_map,Option.map_eq_some_iff] at hc
   obtain ⟨v,hv,rfl⟩:=hc
   have hv':arr[j]? = some v:=by simpa using hv
   have:arr.getD j Go.undef=v:=by simp only [Array.getD_eq_getD_getElem?,hv',Option.getD_some]
   rw [this];exact ⟨hv',rfl⟩
  refine .ref _ g 0 (fun j=>arr.getD j Go.undef) (fun j c hc=>by rw [Nat.zero_add];exact h3 j _ (hget j c hc).1) (fun j c hc=>by rw [(hget j c hc).2];exact R_ofScalar X _) (fun j c hc=>?_)
  obtain ⟨k1,k2⟩:=hget j c hc
  refine ⟨List.all_eq_true.1 hone _ (by simpa using Array.mem_of_getElem? k1),?_⟩
  rw [k2]
  unfold ofScalar
  split<;>rfl
 ·exact .any _
def Slots (X:Map) (T:Nat→PV) (a:Act):Prop:=∀ t,R X (T t) (a.tmps.getD t undef)
theorem R_eval {X:Map} {w:World} (hok:X.Ok w) {T:List (Nat × PV)} {a:Act} (h:Slots X (lookupT T) a) (x:Operand):R X (evalO T x) (a.eval x):=by
 cases x with
 | tmp t=>exact h t
 | const v=>exact R_ofConst X v
 | global g=>exact R_global hok g
 | func f=>exact .fn f [] [] #[] #[] rfl rfl (fun j c h=>by simp at h) (fun j c h=>by simp at h)
def Gives (P:Program) (X:Map) (w:World) (m:Sem Value) (p:PV):Prop:=∃ v,m.run P w = .ok v w∧R X p v
section
variable {P:Program} {X:Map} {w:World}
theorem PV.agg_ne (cs:List PV):cs≠[PV.agg cs]:=by
 intro h
 have:=congrArg SizeOf.sizeOf h
 simp at this
 omega
theorem R.oneCell {p:PV} {v:Value} (h:R X p v) (hp:p.cells=some [p]):v.oneCell'=true∧v.cells = #[v]:=by
 cases h<;>first|(exact ⟨rfl,rfl⟩)|(rename_i h1 _;exact ⟨h1,by cases v<;>first|rfl|(simp [Value.oneCell'] at h1)⟩)|(simp [PV.cells] at hp;done)|(simp [PV.cells] at hp;exact absurd hp (PV.agg_ne _))
theorem R.cells {p:PV} {v:Value} (h:R X p v) {cs:List PV} (hc:p.cells=some cs) :
  v.cells.size=cs.length∧(∀ j c,cs[j]? = some c→R X c (v.cells.getD j Go.undef))∧∀ u∈v.cells,u.oneCell'=true:=by
 by_cases hp:p.cells=some [p]
 ·rw [hp] at hc
  cases hc
  obtain ⟨h1,h2⟩:=h.oneCell hp
  rw [h2]
  refine ⟨rfl,fun j c hj=>?_,fun u hu=>?_⟩
  ·cases j with
   | zero=>simp at hj;subst hj;exact h
   | succ j=>simp at hj
  ·simp at hu;subst hu;exact h1
 ·cases h with
  | agg xs vs h1 h2 h3 =>
   simp [PV.cells] at hc
   subst hc
   exact ⟨h1,h2,h3⟩
  | _=>first|(simp [PV.cells] at hc;done)|(exact absurd rfl hp)
theorem binOp_int {op:BinOp} (t:TypeId) (k:IntKind) (a b:Int) (hs:op≠.shl) (hr:op≠.shr):binOp op t (.int k a) (.int k b)=(match op with
   | .add | .sub | .mul=>Op.intArith op k a b
   | .quo | .rem=>Op.intDiv op k a b
   | .and | .or | .xor | .andNot=>Op.intBits op k a b
   | _=>Op.intCmp op a b):=by
 cases op
 case shl=>exact absurd rfl hs
 case shr=>exact absurd rfl hr
 all_goals exact if_neg (fun h=>h rfl)
theorem gives_int {op:BinOp} {t:TypeId} {k:IntKind} {a b:Int} {p:PV} (hs:op≠.shl) (hr:op≠.shr) (h:intP op k a b=some p):Gives P X w (binOp op t (.int k a) (.int k b)) p:=by
 rw [binOp_int t k a b hs hr]
 unfold intP at h
 split at h
 case h_4 =>
  split at h
  ·cases h
  ·rename_i hb;cases h;exact ⟨_,(congrArg (Sem.run P · w) (if_neg hb)).trans rfl, .int _ _⟩
 case h_5 =>
  split at h
  ·cases h
  ·rename_i hb;cases h;exact ⟨_,(congrArg (Sem.run P · w) (if_neg hb)).trans rfl, .int _ _⟩
 all_goals first
  | (cases h;done)
  | (cases h;exact ⟨_,rfl,R.int _ _⟩)
  | (cases h;exact ⟨_,rfl,R.bool _⟩)
theorem gives_str {op:BinOp} {t:TypeId} {a b:ByteArray} {p:PV} (h:strP op a.data.toList b.data.toList=some p):Gives P X w (binOp op t (.string a) (.string b)) p:=by
 have ha:a.toList=a.data.toList:=by rw [ByteArray.toList_eq]
 have hb:b.toList=b.data.toList:=by rw [ByteArray.toList_eq]
 unfold strP at h
 split at h
 case h_1 =>
  split at h
  ·rename_i hl
   cases h
   have e:(a++b).data.toList=a.data.toList++b.data.toList:=by simp [ByteArray.data_append]
   rw [← e]
   refine ⟨.string (a++b),?_, .str _⟩
   have h1:a.size=a.data.toList.length:=(Array.length_toList).symm
   have h2:b.size=b.data.toList.length:=(Array.length_toList).symm
   have h3:IntKind.i64.max=9223372036854775807:=by decide
   simp only [binOp,Op.stringOp]
   rw [if_neg (by rw [h3];omega)]
   rfl
  ·cases h
 all_goals first
  | (cases h;done)
  | (cases h;refine ⟨_,?_,R.bool _⟩;simp only [binOp,Op.stringOp,ha,hb];rfl)
end
open Go Go.RowKit
section
variable {P:Program} {X:Map} {w:World}
theorem sizeP_some {t:TypeId} {n:Nat} (h:sizeP P t=some n):∃ i d,P.info? t=some i∧i.size=n∧P.underlying t=some d:=by
 unfold sizeP at h
 split at h
 ·rename_i i d h1 h2;cases h;exact ⟨i,d,h1,rfl,h2⟩
 ·cases h
theorem run_isAgg {t:TypeId} {d:TypeDesc} (h:P.underlying t=some d):(isAgg t).run P w = .ok (aggP P t) w:=by
 unfold isAgg aggP
 simp only [Sem.run_bind,run_underlying h,Result.andThen_ok,h]
 cases d<;>rfl
theorem run_sizeOf {t:TypeId} {n:Nat} (h:sizeP P t=some n):(sizeOf t).run P w = .ok n w:=by
 obtain ⟨i,d,h1,h2,_⟩:=sizeP_some h
 unfold sizeOf typeInfo
 simp [h1,h2]
theorem getD_of {vs:Array Value} {j:Nat} {v:Value} (h:vs[j]? = some v):vs.getD j Go.undef=v:=by simp [Array.getD_eq_getD_getElem?,h]
theorem some_getD {vs:Array Value} {j:Nat} (h:j < vs.size):vs[j]? = some (vs.getD j Go.undef):=by simp [Array.getD_eq_getD_getElem?,Array.getElem?_eq_getElem h]
theorem lt_of_get {α:Type} {l:List α} {j:Nat} {c:α} (h:l[j]? = some c):j < l.length:=(List.getElem?_eq_some_iff.1 h).1
theorem gives_loadVar {t:TypeId} {n:Nat} (hn:sizeP P t=some n) {cs:List PV} {b o:Nat} (u:Nat→Value) (h1:∀ j c,cs[j]? = some c→w.cell? ⟨b,o+j,none⟩=some (u j))
  (h2:∀ j c,cs[j]? = some c→R X c (u j)) (h3:∀ j c,cs[j]? = some c→(u j).oneCell'=true) {p:PV} (h:takeP (aggP P t) n cs=some p):Gives P X w (loadVar t ⟨b,o,none⟩) p:=by
 obtain ⟨i,d,_,_,hd⟩:=sizeP_some hn
 cases ha:aggP P t with
 | true =>
  rw [ha] at h
  simp only [takeP] at h
  split at h
  ·rename_i hl
   cases h
   refine ⟨.agg ((List.range n).map u).toArray,?_,?_⟩
   ·have hc:=run_loadCells (P:=P) w ⟨b,o,none⟩ n u (fun j hj=>by
     have hj':j < cs.length:=by omega
     rw [Addr.add_lit]
     exact h1 j cs[j] (List.getElem?_eq_getElem hj'))
    unfold loadVar
    simp only [Sem.run_bind,run_isAgg hd,Result.andThen_ok,ha,if_true,run_sizeOf hn,hc,Sem.run_pure]
   ·refine .agg _ _ (by simp;omega) (fun j c hj=>?_) (fun v hv=>?_)
    ·have hj1:=lt_of_get hj
     simp only [List.length_take] at hj1
     rw [List.getElem?_take_of_lt (by omega)] at hj
     have:((List.range n).map u).toArray.getD j Go.undef=u j:=getD_of (by simp;exact ⟨j,List.getElem?_range (by omega),rfl⟩)
     rw [this]
     exact h2 j c hj
    ·simp only [List.mem_toArray,List.mem_map,List.mem_range] at hv
     obtain ⟨j,hj,rfl⟩:=hv
     have hj':j < cs.length:=by omega
     exact h3 j cs[j] (List.getElem?_eq_getElem hj')
  ·cases h
 | false =>
  rw [ha] at h
  simp only [takeP] at h
  cases cs with
  | nil=>cases h
  | cons c r =>
   cases h
   refine ⟨u 0,?_,h2 0 _ rfl⟩
   unfold loadVar
   have h10:=h1 0 p rfl
   simp only [Nat.add_zero] at h10
   simp only [Sem.run_bind,run_isAgg hd,Result.andThen_ok,ha,Bool.false_eq_true,if_false]
   unfold load
   simp only [Sem.run,h10]
theorem gives_part {t:TypeId} {n off:Nat} (hn:sizeP P t=some n) {cs:List PV} {vs:Array Value} (hr:R X (.agg cs) (.agg vs)) {p:PV} (h:takeP (aggP P t) n (cs.drop off)=some p) :
  Gives P X w (part t vs off) p:=by
 obtain ⟨i,d,_,_,hd⟩:=sizeP_some hn
 cases hr with
 | agg _ _ h1 h2 h3 =>
  unfold Gives part
  simp only [Sem.run_bind,run_isAgg hd,Result.andThen_ok]
  cases ha:aggP P t with
  | true =>
   rw [ha] at h
   simp only [takeP,List.length_drop] at h
   split at h
   ·rename_i hl
    cases h
    by_cases hz:n=0
    ·subst hz
     have h0:vs.extract off (off+0) = #[]:=Array.eq_empty_of_size_eq_zero (by simp;omega)
     refine ⟨.agg (vs.extract off (off+0)),by simp [run_sizeOf hn],?_⟩
     rw [h0]
     exact .agg _ _ (by simp) (fun j c hj=>by simp at hj) (fun v hv=>by simp at hv)
    ·refine ⟨.agg (vs.extract off (off+n)),by simp [run_sizeOf hn],?_⟩
     refine .agg _ _ (by simp;omega) (fun j c hj=>?_) (fun v hv=>h3 v ?_)
     ·have hj1:=lt_of_get hj
      simp only [List.length_take,List.length_drop] at hj1
      rw [List.getElem?_take_of_lt (by omega),List.getElem?_drop] at hj
      have h4:=h2 _ _ hj
      have h5:(vs.extract off (off+n)).getD j Go.undef=vs.getD (off+j) Go.undef:=by
       refine getD_of ?_
       rw [Array.getElem?_extract,if_pos (by omega)]
       exact some_getD (by omega)
      rw [h5];exact h4
     ·obtain ⟨k,hk,hk'⟩:=Array.mem_iff_getElem.1 hv
      rw [Array.getElem_extract] at hk'
      rw [← hk']
      exact Array.getElem_mem _
   ·cases h
  | false =>
   rw [ha] at h
   simp only [takeP] at h
   simp only [Bool.false_eq_true,if_false]
   cases hdr:cs.drop off with
   | nil=>rw [hdr] at h;cases h
   | cons c r =>
    rw [hdr] at h
    cases h
    have hc:cs[off]? = some p:=by
     have:=congrArg (·[0]?) hdr
     simpa using this
    have hlt:=lt_of_get hc
    rw [some_getD (vs:=vs) (j:=off) (by omega)]
    exact ⟨_,rfl,h2 _ _ hc⟩
theorem run_eqFields {d:Nat} {eq:TypeId→PV→PV→Option Bool} (heq:∀ t x y b,eq t x y=some b→∀ vx vy,R X x vx→R X y vy→(Op.equalIn d t vx vy).run P w = .ok b w)
  {xs ys:List PV} {vx vy:Array Value} (hx:R X (.agg xs) (.agg vx)) (hy:R X (.agg ys) (.agg vy)):∀ (fs:List Field) (b:Bool),eqFieldsP P eq xs ys fs=some b→(Op.eqFields d vx vy fs).run P w = .ok b w
 | [],b,h=>by cases h;rfl
 | f::fs,b,h=>by
  have ih:=run_eqFields heq hx hy fs
  unfold eqFieldsP at h
  unfold Op.eqFields
  by_cases hf:f.name ≠ "_"
  ·rw [if_pos hf] at h ⊢
   split at h
   ·rename_i n hn
    split at h
    ·rename_i a c ha hc
     obtain ⟨va,ra,Ra⟩:=gives_part (w:=w) hn hx ha
     obtain ⟨vc,rc,Rc⟩:=gives_part (w:=w) hn hy hc
     split at h
     ·rename_i he
      have:=heq _ _ _ _ he va vc Ra Rc
      simp only [Sem.run_bind,ra,rc,this,Result.andThen_ok,Bool.not_true,Bool.false_eq_true,if_false]
      exact ih b h
     ·rename_i he
      have:=heq _ _ _ _ he va vc Ra Rc
      cases h
      simp only [Sem.run_bind,ra,rc,this,Result.andThen_ok,Bool.not_false,if_true,Sem.run_pure]
     ·cases h
    ·cases h
   ·cases h
  ·rw [if_neg hf] at h ⊢
   exact ih b h
theorem run_eq:∀ (d d':Nat) (_:d≤d') (t:TypeId) (x y:PV) (b:Bool),eqP P d t x y=some b→∀ vx vy,R X x vx→R X y vy→(Op.equalIn d' t vx vy).run P w = .ok b w
 | 0,_,_,_,_,_,_,h=>by cases h
 | d+1,0,hd,_,_,_,_,_=>by omega
 | d+1,d'+1,hd,t,x,y,b,h=>by
  intro vx vy hx hy
  have ih:=run_eq d d' (by omega)
  unfold eqP at h
  split at h
  ·cases h
  ·rename_i k hk
   split at h
   case h_18=>cases h
   case h_17 =>
    cases hx;cases hy
    rename_i fields xs ys vx _ _ _ vy _ _ _
    split at h
    ·cases h
    ·rename_i hs
     have hf:P.fieldsOf t=fields:=by simp [Program.fieldsOf,hk]
     have hR1:R X (.agg xs) (.agg vx):=.agg _ _ ‹_› ‹_› ‹_›
     have hR2:R X (.agg ys) (.agg vy):=.agg _ _ ‹_› ‹_› ‹_›
     rw [run_equalIn_struct w d' t vx vy (by rw [hf];exact hk) (by simpa using hs),hf]
     exact run_eqFields (eq:=eqP P d) (fun t x y b h vx vy h1 h2=>ih t x y b h vx vy h1 h2) hR1 hR2 _ b h
   all_goals
    cases hx;cases hy
    first
     | (cases h;done)
     | (obtain rfl:=Option.some.inj h;rw [run_equalIn_string w d' t _ _ hk,ByteArray.toList_eq,ByteArray.toList_eq];done)
     | (split at h<;>first|(cases h;done)|(cases h;subst_vars;simp [Op.equalIn,run_underlying hk];done))
     | (cases h;simp [Op.equalIn,run_underlying hk];done)
     | (cases h;simp [Op.equalIn,run_underlying hk,ByteArray.toList_eq];done)
     | skip
end
open Go Go.RowKit
section
variable {P:Program} {X:Map} {w:World}
theorem gives_shift {op:BinOp} {t:TypeId} {k k':IntKind} {a b:Int} {p:PV} (ho:op = .shl∨op = .shr) (h:shiftP op k a b=some p):Gives P X w (binOp op t (.int k a) (.int k' b)) p:=by
 unfold shiftP at h
 split at h
 ·cases h
 ·rename_i hb
  rcases ho with rfl|rfl
  ·cases h
   exact ⟨_,(congrArg (Sem.run P · w) (if_neg hb)).trans rfl, .int _ _⟩
  ·cases h
   exact ⟨_,(congrArg (Sem.run P · w) (if_neg hb)).trans rfl, .int _ _⟩
theorem eqGuard_run {op:BinOp} {t:TypeId} {x y:Operand} {va vb:Value} (hv:(op = .eql∨op = .neq)→(∀ cs cs',va = .agg cs→vb = .agg cs'→P.eqGuardType P.depth t=false)∧va≠.nilIface) :
  (eqGuard op t x y va vb).run P w = .ok () w:=by
 by_cases ho:op = .eql∨op = .neq
 ·obtain ⟨h1,h2⟩:=hv ho
  have he:eqGuard op t x y va vb=(match va,vb with
   | .agg _, .agg _=>(do
    if !(← program).eqGuardType (← program).depth t then return
    if ← Op.eqGuardIn Op.maxDepth t va vb then unsupported (.noEntry "binop/eql: two nil values of an interface type with methods, in a part of a struct or an array"))
   | _,_=>pure ():Sem Unit):=by
   rcases ho with rfl|rfl<;>cases va<;>first|(exact absurd rfl h2)|rfl|(cases vb<;>rfl)
  rw [he]
  cases va with
  | agg c1=>cases vb with
   | agg c2 =>
    have hg:=h1 c1 c2 rfl rfl
    simp only [Sem.run_bind,run_program,Result.andThen_ok,hg]
    rfl
   | _=>rfl
  | _=>rfl
 ·cases op<;>first|rfl|(exact absurd (Or.inl rfl) ho)|(exact absurd (Or.inr rfl) ho)
theorem eqP_any {d:Nat} {t:TypeId} {y:PV} {b:Bool} (h:eqP P d t .any y=some b):False:=by
 cases d with
 | zero=>cases h
 | succ d =>
  unfold eqP at h
  cases hu:P.underlying t with
  | none=>rw [hu] at h;cases h
  | some k=>rw [hu] at h;cases k<;>cases h
theorem eqP_anyR {d:Nat} {t:TypeId} {x:PV} {b:Bool} (h:eqP P d t x .any=some b):False:=by
 cases d with
 | zero=>cases h
 | succ d =>
  unfold eqP at h
  cases hu:P.underlying t with
  | none=>rw [hu] at h;cases h
  | some k=>rw [hu] at h;cases k<;>cases x<;>cases h
theorem eqP_atomL {d j:Nat} {t:TypeId} {y:PV} {b:Bool} (h:eqP P d t (.atom j) y=some b):False:=by
 cases d with
 | zero=>cases h
 | succ d =>
  unfold eqP at h
  cases hu:P.underlying t with
  | none=>rw [hu] at h;cases h
  | some k=>rw [hu] at h;cases k<;>cases h
theorem eqP_atomR {d j:Nat} {t:TypeId} {x:PV} {b:Bool} (h:eqP P d t x (.atom j)=some b):False:=by
 cases d with
 | zero=>cases h
 | succ d =>
  unfold eqP at h
  cases hu:P.underlying t with
  | none=>rw [hu] at h;cases h
  | some k=>rw [hu] at h;cases k<;>cases x<;>cases h
def PV.opaque_:PV→Bool
 | .any | .atom _=>true
 | _=>false
theorem eqP_seen {d:Nat} {t:TypeId} {x y:PV} {b:Bool} (h:eqP P d t x y=some b):x.opaque_=false∧y.opaque_=false:=by
 constructor
 ·cases x<;>first|rfl|exact (eqP_any h).elim|exact (eqP_atomL h).elim
 ·cases y<;>first|rfl|exact (eqP_anyR h).elim|exact (eqP_atomR h).elim
theorem binOp_eql {t:TypeId} {px py:PV} {vx vy:Value} (hx:R X px vx) (hy:R X py vy) (h1:px.opaque_=false) (h2:py.opaque_=false)
  (n1:∀ k a k' b,px = .int k a→py = .int k' b→False) (n2:∀ a b,px = .str a→py = .str b→False) :
  binOp .eql t vx vy=(do pure (.bool (← Op.equal t vx vy)))∧binOp .neq t vx vy=(do pure (.bool (!(← Op.equal t vx vy)))):=by
 cases hx<;>first
  | (cases h1;done)
  | (cases hy<;>first|(cases h2;done)|(exfalso;exact n1 _ _ _ _ rfl rfl)|(exfalso;exact n2 _ _ rfl rfl)|(exact ⟨rfl,rfl⟩))
theorem R.notIface {p:PV} {v:Value} (h:R X p v) (hp:p.opaque_=false):v≠.nilIface:=by
 cases h<;>first|(cases hp;done)|(intro h;cases h)
theorem gives_bin {op:BinOp} {t:TypeId} {x y:Operand} {px py p:PV} {vx vy:Value} (h:binP P op t px py=some p) (hx:R X px vx) (hy:R X py vy) :
  Gives P X w (do eqGuard op t x y vx vy;binOp op t vx vy) p:=by
 have key:Gives P X w (binOp op t vx vy) p→((op = .eql∨op = .neq)→(∀ cs cs',vx = .agg cs→vy = .agg cs'→P.eqGuardType P.depth t=false)∧vx≠.nilIface)→Gives P X w (do eqGuard op t x y vx vy;binOp op t vx vy) p:=by
  rintro ⟨v,h1,h2⟩ h3
  exact ⟨v,by simp only [Sem.run_bind,eqGuard_run h3,Result.andThen_ok,h1],h2⟩
 unfold binP at h
 split at h
 ·cases hx;cases hy
  exact key (gives_shift (.inl rfl) h) (by rintro (h|h)<;>cases h)
 ·cases hx;cases hy
  exact key (gives_shift (.inr rfl) h) (by rintro (h|h)<;>cases h)
 ·rename_i n1 n2
  split at h
  ·rename_i hk
   subst hk
   cases hx;cases hy
   refine key (gives_int (fun e=>?_) (fun e=>?_) h) (fun _=>⟨(fun cs _ hc=>by cases hc),(by intro hh;cases hh)⟩)
   ·exact n1 e
   ·exact n2 e
  ·cases h
 ·cases hx with
  | str a=>cases hy with
   | str b=>exact key (gives_str h) (fun _=>⟨(fun cs _ hc=>by cases hc),(by intro hh;cases hh)⟩)
 ·rename_i n1 n2
  split at h
  ·cases h
  ·rename_i hg
   split at h
   ·rename_i b he
    cases h
    have hr:=run_eq (w:=w) 8 Op.maxDepth (by decide) t _ _ b he vx vy hx hy
    obtain ⟨hany,hany'⟩:=eqP_seen he
    refine key ⟨.bool b,?_, .bool b⟩ (fun _=>⟨(fun _ _ _ _=>by simpa using hg),hx.notIface hany⟩)
    rw [(binOp_eql hx hy hany hany' n1 n2).1]
    unfold Op.equal
    simp only [Sem.run_bind,hr,Result.andThen_ok,Sem.run_pure]
   ·cases h
 ·rename_i n1 n2
  split at h
  ·cases h
  ·rename_i hg
   split at h
   ·rename_i b he
    cases h
    have hr:=run_eq (w:=w) 8 Op.maxDepth (by decide) t _ _ b he vx vy hx hy
    obtain ⟨hany,hany'⟩:=eqP_seen he
    refine key ⟨.bool !b,?_, .bool _⟩ (fun _=>⟨(fun _ _ _ _=>by simpa using hg),hx.notIface hany⟩)
    rw [(binOp_eql hx hy hany hany' n1 n2).2]
    unfold Op.equal
    simp only [Sem.run_bind,hr,Result.andThen_ok,Sem.run_pure]
   ·cases h
 ·cases h
end
open Go Go.RowKit
section
variable {P:Program} {X:Map} {w:World}
theorem gives_un {op:UnOp} {px p:PV} {vx:Value} (h:unP op px=some p) (hx:R X px vx):Gives P X w (Op.unary op vx) p:=by
 unfold unP at h
 split at h
 ·cases hx;cases h;exact ⟨_,rfl, .int _ _⟩
 ·cases hx;cases h;exact ⟨_,rfl, .bool _⟩
 ·rename_i k n
  cases hx
  have:=gives_int (P:=P) (X:=X) (w:=w) (t:=0) (by decide) (by decide) h
  rw [binOp_int 0 k _ n (by decide) (by decide)] at this
  exact this
 ·cases h
theorem run_loadCells_u {b o n:Nat} (u:Nat→Value) (h:∀ j,j < n→w.cell? ⟨b,o+j,none⟩=some (u j)):(loadCells ⟨b,o,none⟩ n).run P w = .ok ((List.range n).map u).toArray w :=
 run_loadCells (P:=P) w ⟨b,o,none⟩ n u (fun j hj=>by rw [Addr.add_lit];exact h j hj)
theorem foldl_push:∀ (ns:List Int) (s:ByteArray),(ns.foldl (fun r n=>r.push (UInt8.ofNat n.toNat)) s).data.toList=s.data.toList++ns.map fun n=>UInt8.ofNat n.toNat
 | [],s=>by simp
 | n::ns,s=>by
  rw [List.foldl_cons,foldl_push ns]
  simp [ByteArray.push]
theorem bytesOf_ints:∀ (xs:List PV) (l:List UInt8),bytesOf xs=some l→∃ ns:List Int,xs=ns.map (PV.int .u8)∧l=ns.map fun n=>UInt8.ofNat n.toNat
 | [],l,h=>by cases h;exact ⟨[],rfl,rfl⟩
 | x::xs,l,h=>by
  unfold bytesOf at h
  split at h
  ·rename_i he;cases he
  ·rename_i n r he
   cases he
   split at h
   ·rename_i l' hl
    cases h
    obtain ⟨ns,rfl,rfl⟩:=bytesOf_ints _ _ hl
    exact ⟨n::ns,rfl,rfl⟩
   ·cases h
  ·cases h
theorem flat_ints:∀ ns:List Int,(ns.map (PV.int .u8)).flatMap PV.cellsD=ns.map (PV.int .u8)
 | []=>rfl
 | n::ns=>by simp [PV.cellsD,flat_ints ns]
theorem gives_conv {src dst:TypeId} {px p:PV} {vx:Value} (hw:X.Ok w) (h:convP P src dst px=some p) (hx:R X px vx):Gives P X w (convert src dst vx) p:=by
 unfold convP at h
 split at h
 ·rename_i s d hs hd
  have hrs:=run_underlying hs w
  have hrd:=run_underlying hd w
  split at h
  ·cases hx
   cases h
   refine ⟨_,?_, .int _ _⟩
   simp only [convert,Sem.run_bind,hrs,hrd,Result.andThen_ok]
   rfl
  ·cases hx
   cases h
   refine ⟨_,?_, .str _⟩
   simp only [convert,Sem.run_bind,hrs,hrd,Result.andThen_ok]
   rfl
  ·rename_i e x
   split at h
   ·rename_i he
    have hre:=run_underlying he w
    have hc:∀ vx:Value,(∃ a n c,vx = .slice a n c)→(convert src dst vx).run P w=(Conv.bytesToString vx).run P w:=by
     rintro _ ⟨a,n,c,rfl⟩
     simp only [convert,Sem.run_bind,hrs,hrd,Result.andThen_ok,hre]
    split at h
    ·cases hx;cases h
     refine ⟨.string ByteArray.empty,?_,?_⟩
     ·rw [hc _ ⟨_,_,_,rfl⟩];rfl
     ·exact .str ByteArray.empty
    ·rename_i xs
     split at h
     ·rename_i l hl
      cases h
      obtain ⟨ns,rfl,rfl⟩:=bytesOf_ints _ _ hl
      cases hx with
      | slice _ _ b o cap u h1 h2 h3 h4 h5 h6 =>
       rw [flat_ints] at h4 h5
       have hu:∀ j,j < ns.length→u j=(ns.map (Value.int .u8)).getD j undef:=fun j hj=>by
        have:=h5 j (.int .u8 ns[j]) (by simp [hj])
        simp [hj]
        generalize u j=q at this
        cases this
        rfl
       have hl:=run_loadCells_u (P:=P) (w:=w) (b:=b) (o:=o) (n:=ns.length) u (fun j hj=>hw.1 _ _ _ (h4 j (.int .u8 ns[j]) (by simp [hj])))
       have hm:(List.range ns.length).map u=ns.map (Value.int .u8):=by
        apply List.ext_getElem
        ·simp
        ·intro j h1 h2
         simp at h1
         simp only [List.getElem_map,List.getElem_range]
         rw [hu j h1]
         simp [h1]
       rw [hm] at hl
       have hr:=run_bytesToString w ⟨b,o,none⟩ ns.length cap ns hl
       refine ⟨_,(hc _ ⟨_,_,_,rfl⟩).trans (by rw [List.length_map];exact hr),?_⟩
       have hf:=foldl_push ns ByteArray.empty
       have h0:ByteArray.empty.data.toList=[]:=rfl
       rw [h0,List.nil_append] at hf
       rw [← hf]
       exact .str _
     ·cases h
    ·cases h
   ·cases h
  ·cases h
 ·cases h
theorem run_bound {px:PV} {v:Value} {y m:Nat} (h:boundP px y=some m) (hx:R X px v) (code:BoundsCode):(Instr.sliceBound v y code).run P w = .ok m w∧m≤y:=by
 unfold boundP at h
 split at h
 ·cases hx
  split at h
  ·rename_i hb
   cases h
   refine ⟨?_,by omega⟩
   simp [Instr.sliceBound,asIntOf,hb]
  ·cases h
 ·cases h
theorem boundP_le {px:PV} {y y' m:Nat} (h:boundP px y=some m) (hy:y≤y'):boundP px y'=some m∧m≤y:=by
 cases px with
 | int k i =>
  simp only [boundP] at h ⊢
  split at h
  ·rename_i hb;cases h;exact ⟨by rw [if_pos (by omega)],by omega⟩
  ·cases h
 | _=>simp [boundP] at h
def ROpt (X:Map) (p:Option PV) (v:Option Value):Prop:=match p,v with|some p,some v=>R X p v|none,none=>True|_,_=>False
theorem run_bounds {isSlice:Bool} {len cap l h:Nat} {plo phi:Option PV} {lo hi:Option Value} (hb:boundsP len plo phi=some (l,h)) (hc:len≤cap)
  (hlo:ROpt X plo lo) (hhi:ROpt X phi hi) :
  (Instr.sliceBounds isSlice len cap lo hi none).run P w = .ok (l,h,cap) w∧l≤h∧h≤len:=by
 unfold boundsP at hb
 split at hb
 ·rename_i h' hh
  split at hb
  ·rename_i l' hl
   cases hb
   unfold Instr.sliceBounds
   cases phi with
   | none =>
    cases hi with
    | some v=>exact hhi.elim
    | none =>
     cases hh
     cases plo with
     | none=>cases lo with
      | some v=>exact hlo.elim
      | none=>cases hl;exact ⟨rfl,Nat.zero_le _,Nat.le_refl _⟩
     | some p=>cases lo with
      | none=>exact hlo.elim
      | some v =>
       have h1:boundP p len=some l:=hl
       have h2:=fun code=>(run_bound (P:=P) (w:=w) h1 hlo code).1
       refine ⟨?_,(boundP_le h1 (Nat.le_refl _)).2,Nat.le_refl _⟩
       simp only [Sem.run_bind,Sem.run_pure,Result.andThen_ok,h2]
   | some q =>
    cases hi with
    | none=>exact hhi.elim
    | some u =>
     have g1:boundP q len=some h:=hh
     have g2:=fun code=>(run_bound (P:=P) (w:=w) (boundP_le g1 hc).1 hhi code).1
     have g3:=(boundP_le g1 (Nat.le_refl _)).2
     cases plo with
     | none=>cases lo with
      | some v=>exact hlo.elim
      | none =>
       cases hl
       refine ⟨?_,Nat.zero_le _,g3⟩
       simp only [Sem.run_bind,Sem.run_pure,Result.andThen_ok,g2]
     | some p=>cases lo with
      | none=>exact hlo.elim
      | some v =>
       have h1:boundP p h=some l:=hl
       have h2:=fun code=>(run_bound (P:=P) (w:=w) h1 hlo code).1
       refine ⟨?_,(boundP_le h1 (Nat.le_refl _)).2,g3⟩
       simp only [Sem.run_bind,Sem.run_pure,Result.andThen_ok,g2,h2]
  ·cases hb
 ·cases hb
theorem flat_drop (sz:Nat):∀ (xs:List PV) (l:Nat),(∀ x∈xs,x.cellsD.length=sz)→(xs.drop l).flatMap PV.cellsD=(xs.flatMap PV.cellsD).drop (l*sz)
 | xs,0,_=>by simp
 | [],l+1,_=>by simp
 | x::xs,l+1,h=>by
  have hx:=h x (by simp)
  have e:(l+1)*sz=x.cellsD.length+l*sz:=by rw [hx,Nat.add_mul];omega
  rw [List.drop_succ_cons,flat_drop sz xs l (fun y hy=>h y (by simp [hy])),List.flatMap_cons,e,← List.drop_drop,List.drop_left]
theorem flat_take (sz:Nat):∀ (xs:List PV) (l:Nat),(∀ x∈xs,x.cellsD.length=sz)→(xs.take l).flatMap PV.cellsD=(xs.flatMap PV.cellsD).take (l*sz)
 | xs,0,_=>by simp
 | [],l+1,_=>by simp
 | x::xs,l+1,h=>by
  have hx:=h x (by simp)
  have e:(l+1)*sz=x.cellsD.length+l*sz:=by rw [hx,Nat.add_mul];omega
  rw [List.take_succ_cons,List.flatMap_cons,flat_take sz xs l (fun y hy=>h y (by simp [hy])),List.flatMap_cons,e,List.take_length_add_append]
theorem flat_len (sz:Nat):∀ (xs:List PV),(∀ x∈xs,x.cellsD.length=sz)→(xs.flatMap PV.cellsD).length=xs.length*sz
 | [],_=>by simp
 | x::xs,h=>by
  rw [List.flatMap_cons,List.length_append,h x (by simp),flat_len sz xs (fun y hy=>h y (by simp [hy])),List.length_cons,Nat.add_mul];omega
theorem gives_slice {t:TypeId} {px p:PV} {vx:Value} {plo phi:Option PV} {lo hi:Option Value} (h:sliceP P t px plo phi=some p) (hx:R X px vx)
  (hlo:ROpt X plo lo) (hhi:ROpt X phi hi):Gives P X w (Instr.sliceAt t vx lo hi none) p:=by
 unfold sliceP at h
 split at h
 ·rename_i ht
  have hrt:=run_underlying ht w
  split at h
  ·split at h
   ·rename_i l m hb
    cases h
    cases hx with
    | str s =>
     have hsz:s.data.toList.length=s.size:=Array.length_toList
     rw [hsz] at hb
     obtain ⟨h1,h2,h3⟩:=run_bounds (P:=P) (w:=w) (isSlice:=false) hb (Nat.le_refl _) hlo hhi
     refine ⟨.string (s.extract l m),?_,?_⟩
     ·simp only [Instr.sliceAt,Instr.slice,Sem.run_bind,hrt,Result.andThen_ok,h1,Option.isSome_none,Bool.false_eq_true,if_false,Sem.run_pure]
     ·have:((s.data.toList.take m).drop l)=(s.extract l m).data.toList:=by
       rw [ByteArray.data_extract]
       simp [List.drop_take]
      rw [this]
      exact .str _
   ·cases h
  ·cases h
 ·rename_i e ht
  have hrt:=run_underlying ht w
  split at h
  ·rename_i sz xs
   split at h
   ·rename_i l m hb
    split at h
    ·rename_i hs
     cases h
     cases hx with
     | slice _ _ b o cap u h1 h2 h3 h4 h5 h6 =>
      obtain ⟨r1,r2,r3⟩:=run_bounds (P:=P) (w:=w) (isSlice:=true) hb h3 hlo hhi
      have hlen:((xs.take m).drop l).length=m - l:=by simp;omega
      have hmem:∀ x∈(xs.take m).drop l,x.cellsD.length=sz:=fun x hx=>h1 x (List.mem_of_mem_take (List.mem_of_mem_drop hx))
      have hmem':∀ x∈xs.take m,x.cellsD.length=sz:=fun x hx=>h1 x (List.mem_of_mem_take hx)
      have hget:∀ j c,(((xs.take m).drop l).flatMap PV.cellsD)[j]? = some c→(xs.flatMap PV.cellsD)[l*sz+j]? = some c:=by
       intro j c hj
       rw [flat_drop sz _ l hmem',flat_take sz _ m h1,List.getElem?_drop] at hj
       rw [List.getElem?_take] at hj
       split at hj
       ·exact hj
       ·cases hj
      by_cases hz:cap=l
      ·refine ⟨.slice (some ⟨b,o,none⟩) (m - l) (cap - l),?_,?_⟩
       ·simp only [Instr.sliceAt,Instr.slice,Sem.run_bind,hrt,Result.andThen_ok,r1,run_sizeOf hs,Sem.run_pure]
        rw [if_pos hz]
       ·have hnil:(xs.take m).drop l=[]:=List.eq_nil_of_length_eq_zero (by omega)
        rw [hnil,← show ([]:List PV).length=m - l by simp;omega]
        exact .slice sz [] b o _ u (fun x hx=>by simp at hx) h2 (Nat.zero_le _) (fun j c hj=>by simp at hj) (fun j c hj=>by simp at hj) (fun j c hj=>by simp at hj)
      ·refine ⟨.slice (some ⟨b,o+l*sz,none⟩) (m - l) (cap - l),?_,?_⟩
       ·simp only [Instr.sliceAt,Instr.slice,Sem.run_bind,hrt,Result.andThen_ok,r1,run_sizeOf hs,Sem.run_pure,hz,if_false,Option.map_some,Addr.add_lit]
       ·rw [← hlen]
        refine .slice sz _ b (o+l*sz) _ (fun j=>u (l*sz+j)) hmem h2 (by omega) (fun j c hj=>?_) (fun j c hj=>h5 _ _ (hget j c hj)) (fun j c hj=>h6 _ _ (hget j c hj))
        have:=h4 _ _ (hget j c hj)
        rw [Nat.add_assoc];exact this
    ·cases h
   ·cases h
  ·split at h
   ·rename_i q n hb hs
    obtain ⟨l,m⟩:=q
    cases h
    cases hx
    obtain ⟨r1,r2,r3⟩:=run_bounds (P:=P) (w:=w) (isSlice:=true) hb (Nat.le_refl _) hlo hhi
    refine ⟨.slice none 0 0,?_, .nilslice⟩
    simp only [Instr.sliceAt,Instr.slice,Sem.run_bind,hrt,Result.andThen_ok,r1,run_sizeOf hs,Sem.run_pure]
    obtain rfl:m=0:=by omega
    obtain rfl:l=0:=by omega
    rfl
   ·cases h
  ·cases h
 ·cases h
theorem gives_fieldAddr {t:TypeId} {px p:PV} {vx:Value} {f:Nat} (h:fieldAddrP P t px f=some p) (hx:R X px vx):Gives P X w (Instr.fieldAt t vx f) p:=by
 unfold fieldAddrP at h
 split at h
 ·rename_i fs ht
  have hrt:=run_underlying ht w
  split at h
  ·rename_i fd hf
   split at h
   ·rename_i k hs
    have hplace:∀ a:Addr,(fieldPlace a fd).run P w = .ok (a.add fd.offset) w:=fun a=>by
     simp [fieldPlace,run_sizeOf hs]
    split at h
    ·rename_i id off
     cases h
     cases hx with
     | box _ _ b hb =>
      refine ⟨.pointer (some ⟨b,off+fd.offset,none⟩),?_, .box _ _ b hb⟩
      simp only [Instr.fieldAt,Sem.run_bind,hrt,Result.andThen_ok,hf,Instr.sureAddr,Sem.run_pure,hplace,Addr.add_lit]
    ·cases h
     cases hx with
     | ref cs b o u h1 h2 h3 =>
      refine ⟨.pointer (some ⟨b,o+fd.offset,none⟩),?_, .ref _ b _ (fun j=>u (fd.offset+j)) (fun j c hj=>?_) (fun j c hj=>?_) (fun j c hj=>?_)⟩
      ·simp only [Instr.fieldAt,Sem.run_bind,hrt,Result.andThen_ok,hf,Instr.sureAddr,Sem.run_pure,hplace,Addr.add_lit]
      ·rw [List.getElem?_drop] at hj
       have:=h1 _ _ hj
       rw [Nat.add_assoc];exact this
      ·rw [List.getElem?_drop] at hj
       exact h2 _ _ hj
      ·rw [List.getElem?_drop] at hj
       exact h3 _ _ hj
    ·rename_i g n off
     cases h
     cases hx with
     | rp _ _ _ b cap hb =>
      refine ⟨.pointer (some ⟨b,off+fd.offset,none⟩),?_, .rp _ _ _ b cap hb⟩
      simp only [Instr.fieldAt,Sem.run_bind,hrt,Result.andThen_ok,hf,Instr.sureAddr,Sem.run_pure,hplace,Addr.add_lit]
    ·cases h
   ·cases h
  ·cases h
 ·cases h
theorem gives_field {t:TypeId} {px p:PV} {vx:Value} {f:Nat} (h:fieldP P t px f=some p) (hx:R X px vx):Gives P X w (Instr.field t vx f) p:=by
 unfold fieldP at h
 split at h
 ·rename_i fs ht
  have hrt:=run_underlying ht w
  split at h
  ·rename_i fd hf
   split at h
   ·rename_i cs n hn
    cases hx with
    | agg _ vs h1 h2 h3 =>
     obtain ⟨v,hv,Rv⟩:=gives_part (w:=w) hn (.agg cs vs h1 h2 h3) h
     refine ⟨v,?_,Rv⟩
     simp only [Instr.field,Sem.run_bind,hrt,Result.andThen_ok,hf,asAgg,Sem.run_pure,hv]
   ·cases h
  ·cases h
 ·cases h
theorem gives_indexAddr {t:TypeId} {px pi p:PV} {vx vi:Value} (h:indexAddrP P t px pi=some p) (hx:R X px vx) (hi:R X pi vi):Gives P X w (Instr.indexAt t vx vi) p:=by
 unfold indexAddrP at h
 split at h
 ·rename_i e ht
  have hrt:=run_underlying ht w
  split at h
  ·rename_i sz xs k i
   split at h
   ·rename_i hc
    obtain ⟨hs,h0⟩:=hc
    split at h
    ·rename_i c hc
     cases h
     cases hi
     cases hx with
     | slice _ _ b o cap u h1 h2 h3 h4 h5 h6 =>
      have hlt:=lt_of_get hc
      have hget:∀ j d,c.cellsD[j]? = some d→(xs.flatMap PV.cellsD)[i.toNat*sz+j]? = some d:=by
       intro j d hj
       have hd:=flat_drop sz xs i.toNat h1
       have hcons:xs.drop i.toNat=c::xs.drop (i.toNat+1):=by
        rw [List.drop_eq_getElem_cons hlt]
        rw [List.getElem?_eq_getElem hlt] at hc
        cases hc;rfl
       rw [hcons,List.flatMap_cons] at hd
       have:=congrArg (·[j]?) hd
       simp only [List.getElem?_drop] at this
       rw [← this,List.getElem?_append_left (lt_of_get hj)]
       exact hj
      refine ⟨.pointer (some ⟨b,o+i.toNat*sz,none⟩),?_, .ref _ b _ (fun j=>u (i.toNat*sz+j)) (fun j d hj=>?_) (fun j d hj=>h5 _ _ (hget j d hj)) (fun j d hj=>h6 _ _ (hget j d hj))⟩
      ·have hb:0≤i∧i < (xs.length:Int):=⟨h0,by omega⟩
       simp only [Instr.indexAt,asIntOf,Sem.run_bind,hrt,Result.andThen_ok,Sem.run_pure,hb,and_self,if_true,run_sizeOf hs,Addr.add_lit]
      ·have:=h4 _ _ (hget j d hj)
       rw [Nat.add_assoc];exact this
    ·cases h
   ·cases h
  ·rename_i g n k i
   split at h
   ·rename_i sz hs
    split at h
    ·rename_i hb
     cases h
     cases hi
     cases hx with
     | ms _ _ b cap hm =>
      refine ⟨.pointer (some ⟨b,i.toNat*sz,none⟩),?_, .rp _ _ _ b cap hm⟩
      simp only [Instr.indexAt,asIntOf,Sem.run_bind,hrt,Result.andThen_ok,Sem.run_pure,hb,and_self,if_true,run_sizeOf hs,Addr.add_lit,Nat.zero_add]
    ·cases h
   ·cases h
  ·cases h
 ·rename_i n e ht
  have hrt:=run_underlying ht w
  split at h
  ·rename_i cs k i
   split at h
   ·rename_i sz hs
    split at h
    ·rename_i hb
     cases h
     cases hi
     cases hx with
     | ref _ b o u h1 h2 h3 =>
      have hget:∀ (j:Nat) c,(cs.drop (i.toNat*sz))[j]? = some c→cs[i.toNat*sz+j]? = some c:=fun j c hj=>by rw [List.getElem?_drop] at hj;exact hj
      refine ⟨.pointer (some ⟨b,o+i.toNat*sz,none⟩),?_, .ref _ b _ (fun j=>u (i.toNat*sz+j)) (fun j c hj=>?_) (fun j c hj=>h2 _ _ (hget j c hj)) (fun j c hj=>h3 _ _ (hget j c hj))⟩
      ·simp only [Instr.indexAt,asIntOf,Instr.sureAddr,Sem.run_bind,hrt,Result.andThen_ok,Sem.run_pure,hb,and_self,if_true,run_sizeOf hs,Addr.add_lit]
      ·have:=h1 _ _ (hget j c hj)
       rw [Nat.add_assoc];exact this
    ·cases h
   ·cases h
  ·rename_i id off k i
   split at h
   ·rename_i sz hs
    split at h
    ·rename_i hb
     cases h
     cases hi
     cases hx with
     | box _ _ b hm =>
      refine ⟨.pointer (some ⟨b,off+i.toNat*sz,none⟩),?_, .box _ _ b hm⟩
      simp only [Instr.indexAt,asIntOf,Instr.sureAddr,Sem.run_bind,hrt,Result.andThen_ok,Sem.run_pure,hb,and_self,if_true,run_sizeOf hs,Addr.add_lit]
    ·cases h
   ·cases h
  ·cases h
 ·cases h
theorem gives_index {t:TypeId} {px pi p:PV} {vx vi:Value} (h:indexP P t px pi=some p) (hx:R X px vx) (hi:R X pi vi):Gives P X w (Instr.index t vx vi) p:=by
 unfold indexP at h
 split at h
 ·rename_i ht
  have hrt:=run_underlying ht w
  split at h
  ·rename_i s k i
   split at h
   ·rename_i h0
    split at h
    ·rename_i b hb
     cases h
     cases hi
     cases hx with
     | str s =>
      refine ⟨_,?_, .int _ _⟩
      have hlt:=lt_of_get hb
      have hsz:i.toNat < s.size:=by rw [Array.length_toList] at hlt;exact hlt
      have hb':s[i.toNat]? = some b:=by
       rw [getElem?_pos s i.toNat hsz]
       rw [List.getElem?_eq_getElem hlt] at hb
       rw [← hb]
       rfl
      simp only [Instr.index,asIntOf,Sem.run_bind,hrt,Result.andThen_ok,Sem.run_pure,h0,if_true,hb']
    ·cases h
   ·cases h
  ·cases h
 ·cases h
theorem gives_len {t ty:TypeId} {px p:PV} {vx:Value} (h:lenP P t px=some p) (hx:R X px vx) {ts:Array TypeId} (hts:ts[0]? = some t):Gives P X w (Builtin.len_ ts ty #[vx]) p:=by
 unfold lenP at h
 split at h
 ·rename_i ht
  have hrt:=run_underlying ht w
  split at h
  ·cases h
   cases hx with
   | str s =>
    refine ⟨.int .i64 s.size,?_,?_⟩
    ·simp [Builtin.len_,hts,hrt,goInt]
    ·have:s.data.toList.length=s.size:=Array.length_toList
     rw [this];exact .int _ _
  ·cases h
 ·rename_i e ht
  have hrt:=run_underlying ht w
  split at h
  ·cases h
   cases hx with
   | slice _ _ b o cap u h1 h2 h3 h4 h5 h6 =>
    exact ⟨.int .i64 _,by simp [Builtin.len_,hts,hrt,goInt], .int _ _⟩
  ·cases h
   cases hx with
   | ms _ _ b cap hm=>exact ⟨.int .i64 _,by simp [Builtin.len_,hts,hrt,goInt], .int _ _⟩
  ·cases h
   cases hx
   exact ⟨.int .i64 0,by simp [Builtin.len_,hts,hrt,goInt], .int _ _⟩
  ·cases h
   cases hx
   exact ⟨.int .i64 0,by simp [Builtin.len_,hts,hrt,goInt], .int _ _⟩
  ·cases h
 ·cases h
end
open Go Go.RowKit
section
variable {P:Program} {X:Map} {w:World}
theorem Post.same {s s':Nat→Option Res} {W:Nat→Prop} (h:X.Ok w) (hW:∀ id,¬ W id):Post X X w w s s' W :=
 ⟨.refl X,h,Nat.le_refl _,rfl,rfl,rfl,fun _ _ _=>rfl,fun _ _ _ hv=>.inl hv,fun _ _=>⟨rfl,rfl⟩,fun id hi=>(hW id hi).elim,fun id _ hi=>(hW id hi).elim,fun i _ _ hi=>(hW i hi).elim⟩
def Map.settle (X:Map) (b:Nat) (vs:Array Value):Map:={ X with M:=fun b' o=>if b'=b then vs[o]? else X.M b' o }
theorem Map.Ok.none (h:X.Ok w) {b:Nat} (hb:w.heap.size≤b) (o:Nat):X.M b o=none:=by
 cases hv:X.M b o with
 | none=>rfl
 | some v =>
  have:=h.1 b o v hv
  have:=World.block_lt_of_cell? w _ this
  simp at this
  omega
theorem Map.settle_le (h:X.Ok w) {b:Nat} (hb:w.heap.size≤b) (vs:Array Value):X.Le (X.settle b vs):=by
 refine ⟨fun b' o v hv=>?_,fun _ _ h=>h,fun _ _ _ h=>h,rfl⟩
 by_cases e:b'=b
 ·subst e
  rw [h.none hb] at hv
  cases hv
 ·simp only [Map.settle,if_neg e];exact hv
theorem cell_alloc_old (w:World) (o:Obj) (a:Addr) (h:a.block < w.heap.size):(w.alloc o).cell? a=w.cell? a:=World.cell?_of_block (heap_alloc_old w o a.block h)
theorem cell_alloc_new (w:World) (vs:Array Value) (e:TypeId) (o:Nat):(w.alloc (.cells vs e)).cell? ⟨w.heap.size,o,none⟩=vs[o]?:=cell_of_row _ _ _ _ _ _ (heap_alloc_new w _)
theorem Map.Ok.heap {w':World} (h:X.Ok w) (he:w'.heap=w.heap):X.Ok w':=⟨fun b o v hv=>by
 have:=h.1 b o v hv
 simp only [World.cell?,he] at this ⊢
 exact this,h.2.keep (fun _ _ _ h=>h) (fun g _ _=>by rw [he])⟩
theorem post_settle (h:X.Ok w) {w0:World} (h1:w0.heap=w.heap) (h2:w0.os=w.os) (h3:w0.tape=w.tape) (h4:w0.output=w.output) (vs:Array Value) (e:TypeId) {s s':Nat→Option Res} {W:Nat→Prop} (hW:∀ id,¬ W id) :
  Post X (X.settle w.heap.size vs) w (w0.alloc (.cells vs e)) s s' W:=by
 have hsz:w0.heap.size=w.heap.size:=by rw [h1]
 refine ⟨Map.settle_le h (Nat.le_refl _) vs,⟨fun b o v hv=>?_,h.2.keep (Map.settle_le h (Nat.le_refl _) vs).M (fun g _ hg=>by rw [heap_alloc_old _ _ _ (by omega),h1])⟩,by simp [h1],h2,h3,h4,fun k hk _=>?_,fun b o v hv=>?_,fun _ _=>⟨rfl,rfl⟩,fun id hi=>(hW id hi).elim,fun id _ hi=>(hW id hi).elim,fun i _ _ hi=>(hW i hi).elim⟩
 ·simp only [Map.settle] at hv
  by_cases hb:b=w.heap.size
  ·rw [if_pos hb] at hv
   subst hb
   rw [← hsz,cell_alloc_new];exact hv
  ·rw [if_neg hb] at hv
   have:=(h.heap h1).1 b o v hv
   rw [cell_alloc_old _ _ _ (World.block_lt_of_cell? w0 _ this)]
   exact this
 ·rw [heap_alloc_old _ _ _ (by omega),h1]
 ·simp only [Map.settle] at hv
  by_cases hb:b=w.heap.size
  ·exact .inr (.inr (by omega))
  ·rw [if_neg hb] at hv;exact .inl hv
def Map.bind (X:Map) (id b:Nat):Map:={ X with mb:=fun i=>if i=id then some b else X.mb i }
theorem post_box (h:X.Ok w) {id:Nat} {s s':Nat→Option Res} (hn:ResOk X w id none) {cs:List PV} {vs:Array Value} (hs:s' id=some (.box cs)) (hl:vs.size=cs.length)
  (hR:∀ j c,cs[j]? = some c→R X c (vs.getD j Go.undef)) (h1:∀ v∈vs,v.oneCell'=true) (e:TypeId) {W:Nat→Prop} (hW:∀ i,W i↔i=id) :
  Post X (X.bind id w.heap.size) w (w.alloc (.cells vs e)) s s' W∧R (X.bind id w.heap.size) (.box id 0) (.pointer (some ⟨w.heap.size,0,none⟩)):=by
 have hle:X.Le (X.bind id w.heap.size):=by
  refine ⟨fun _ _ _ h=>h,fun i b hb=>?_,fun _ _ _ h=>h,rfl⟩
  by_cases hi:i=id
  ·subst hi;rw [hn.1] at hb;cases hb
  ·simp only [Map.bind,if_neg hi];exact hb
 have hmb:(X.bind id w.heap.size).mb id=some w.heap.size:=by simp [Map.bind]
 refine ⟨⟨hle,⟨fun b o v hv=>?_,h.2.keep hle.M (fun g _ hg=>heap_alloc_old w _ g hg)⟩,by simp,rfl,rfl,rfl,fun k hk _=>heap_alloc_old w _ k hk,fun b o v hv=>.inl hv,fun i hi=>?_,fun i hi=>?_,fun i b hi ho=>?_,fun i j b hi hj _ _=>((hW i).1 hi).trans ((hW j).1 hj).symm⟩, .box _ _ _ hmb⟩
 ·have hv':X.M b o=some v:=hv
  have:=h.1 b o v hv'
  rw [cell_alloc_old _ _ _ (World.block_lt_of_cell? w _ this)];exact this
 ·have:i≠id:=fun e=>hi ((hW i).2 e)
  simp [Map.bind,this]
 ·obtain rfl:=(hW i).1 hi
  rw [hs]
  exact ⟨w.heap.size,vs,e,hmb,heap_alloc_new w _,hl,fun o=>h.none (Nat.le_refl _) o,fun j c hc=>(hR j c hc).mono hle,h1,hn.2⟩
 ·obtain rfl:=(hW i).1 hi
  rw [hs] at ho
  have ho':(X.bind i w.heap.size).mb i=some b:=ho
  rw [hmb] at ho';cases ho'
  exact .inr (Nat.le_refl _)
theorem setAt_get (cs:List PV) (off:Nat) (vs:List PV) (h:off+vs.length≤cs.length) (j:Nat) :
  (setAt cs off vs)[j]? = if j < off then cs[j]? else if j < off+vs.length then vs[j - off]? else cs[j]?:=by
 unfold setAt
 by_cases h1:j < off
 ·rw [if_pos h1,List.append_assoc,List.getElem?_append_left (by simp;omega),List.getElem?_take_of_lt h1]
 ·rw [if_neg h1]
  by_cases h2:j < off+vs.length
  ·rw [if_pos h2,List.getElem?_append_left (by simp;omega),List.getElem?_append_right (by simp;omega)]
   congr 1
   simp;omega
  ·rw [if_neg h2,List.getElem?_append_right (by simp;omega),List.getElem?_drop]
   congr 1
   simp;omega
theorem setAt_len (cs:List PV) (off:Nat) (vs:List PV) (h:off+vs.length≤cs.length):(setAt cs off vs).length=cs.length:=by
 unfold setAt;simp;omega
theorem splice_get (cs:List Value) (off:Nat) (vs:List Value) (h:off+vs.length≤cs.length) (j:Nat) :
  (cs.take off++vs++cs.drop (off+vs.length))[j]? = if j < off then cs[j]? else if j < off+vs.length then vs[j - off]? else cs[j]?:=by
 by_cases h1:j < off
 ·rw [if_pos h1,List.append_assoc,List.getElem?_append_left (by simp;omega),List.getElem?_take_of_lt h1]
 ·rw [if_neg h1]
  by_cases h2:j < off+vs.length
  ·rw [if_pos h2,List.getElem?_append_left (by simp;omega),List.getElem?_append_right (by simp;omega)]
   congr 1
   simp;omega
  ·rw [if_neg h2,List.getElem?_append_right (by simp;omega),List.getElem?_drop]
   congr 1
   simp;omega
theorem post_store (h:X.Ok w) {id b:Nat} {s s':Nat→Option Res} {cs:List PV} {vs:Array Value} {e:TypeId} (hs:s id=some (.box cs)) (hb:X.mb id=some b) (hg:w.heap[b]? = some (.cells vs e (0,0))) (hl:vs.size=cs.length) (hM:∀ o,X.M b o=none)
  (hR:∀ j c,cs[j]? = some c→R X c (vs.getD j Go.undef)) (h1:∀ v∈vs,v.oneCell'=true) (hmt:∀ n,X.mt id n=none)
  {off:Nat} {ns:List PV} {us:Array Value} (hln:us.size=ns.length) (hfit:off+ns.length≤cs.length) (hRn:∀ j c,ns[j]? = some c→R X c (us.getD j Go.undef)) (hn1:∀ v∈us,v.oneCell'=true)
  (hs':s' id=some (.box (setAt cs off ns))) {W:Nat→Prop} (hW:∀ i,W i↔i=id) :
  (storeCells ⟨b,off,none⟩ us.toList).run P w = .ok () (w.setRow b (vs.toList.take off++us.toList++vs.toList.drop (off+us.toList.length)).toArray) ∧
  Post X X w (w.setRow b (vs.toList.take off++us.toList++vs.toList.drop (off+us.toList.length)).toArray) s s' W:=by
 have hul:us.toList.length=ns.length:=by simpa using hln
 have hrun:=run_storeCells_at P b off e us.toList 0 vs w hg (by simp only [Nat.add_zero];omega) (fun v hv=>hn1 v (by simpa using hv))
 simp only [Nat.add_zero] at hrun
 refine ⟨hrun,⟨.refl X,⟨fun b' o v hv=>?_,h.2.keep (fun _ _ _ h=>h) (fun g hv _=>setRow_other w b g _ (fun e=>by obtain ⟨v,hv⟩:=hv;rw [e,hM] at hv;cases hv))⟩,by simp,rfl,rfl,rfl,fun k hk hnot=>setRow_other w b k _ (fun ek=>hnot id ((hW id).2 rfl) ?_),fun _ _ _ hv=>.inl hv,fun _ _=>⟨rfl,rfl⟩,fun i hi=>?_,fun i b' hi ho=>?_,fun i j _ hi hj _ _=>((hW i).1 hi).trans ((hW j).1 hj).symm⟩⟩
 ·by_cases hb':b'=b
  ·subst hb';rw [hM] at hv;cases hv
  ·rw [cell_setRow_other w b _ _ hb'];exact h.1 b' o v hv
 ·rw [hs,ek];exact hb
 ·obtain rfl:=(hW i).1 hi
  rw [hs']
  have hvl:vs.toList.length=cs.length:=by simpa using hl
  refine ⟨b,_,e,hb,setRow_heap w b vs _ e _ hg,?_,hM,fun j c hc=>?_,fun v hv=>?_,hmt⟩
  ·rw [setAt_len _ _ _ hfit]
   simp only [List.size_toArray,List.length_append,List.length_take,List.length_drop]
   omega
  ·rw [setAt_get _ _ _ hfit] at hc
   have hget:=splice_get vs.toList off us.toList (by omega) j
   have hD:∀ (l:List Value) (k:Nat) (q:Value),l[k]? = some q→l.toArray.getD k Go.undef=q:=fun l k q hq=>getD_of (by simpa using hq)
   by_cases c1:j < off
   ·rw [if_pos c1] at hc hget
    have hj:=lt_of_get hc
    have:vs.toList[j]? = some (vs.getD j Go.undef):=by simpa using some_getD (vs:=vs) (j:=j) (by omega)
    rw [this] at hget
    rw [hD _ _ _ hget];exact hR j c hc
   ·rw [if_neg c1] at hc hget
    by_cases c2:j < off+ns.length
    ·rw [if_pos c2] at hc
     rw [if_pos (by omega)] at hget
     have hj:=lt_of_get hc
     have:us.toList[j - off]? = some (us.getD (j - off) Go.undef):=by simpa using some_getD (vs:=us) (j:=j - off) (by omega)
     rw [this] at hget
     rw [hD _ _ _ hget];exact hRn _ c hc
    ·rw [if_neg c2] at hc
     rw [if_neg (by omega)] at hget
     have hj:=lt_of_get hc
     have:vs.toList[j]? = some (vs.getD j Go.undef):=by simpa using some_getD (vs:=vs) (j:=j) (by omega)
     rw [this] at hget
     rw [hD _ _ _ hget];exact hR j c hc
  ·simp only [List.mem_toArray,List.mem_append] at hv
   rcases hv with (hv|hv)|hv
   ·exact h1 v (by simpa using List.mem_of_mem_take hv)
   ·exact hn1 v (by simpa using hv)
   ·exact h1 v (by simpa using List.mem_of_mem_drop hv)
 ·obtain rfl:=(hW i).1 hi
  rw [hs'] at ho
  exact .inl (by rw [hs];exact ho)
end
open Go Go.RowKit
section
variable {P:Program} {X:Map} {w:World}
def Map.ver (X:Map) (id k blk cap:Nat):Map:={ X with mt:=fun i n=>if i=id∧n=k then some (blk,cap) else X.mt i n }
theorem post_row (h:X.Ok w) {w':World} {id k blk cap sz:Nat} {e:TypeId} {cs:List PV} {vs:Array Value} {s s':Nat→Option Res} {W:Nat→Prop} (hW:∀ i,W i↔i=id)
  (hg:w'.heap[blk]? = some (.cells vs e (0,0))) (hvs:vs.size=cap*sz) (hk:k≤cap) (hc:cap≤maxLen) (hM:∀ o,X.M blk o=none) (h0:0 < sz)
  (hlen:cs.length=k*sz) (hR:∀ j c,cs[j]? = some c→R X c (vs.getD j Go.undef)) (hone:∀ v∈vs,v.oneCell'=true)
  (hkeep:∀ i,i < w.heap.size→i≠blk→w'.heap[i]? = w.heap[i]?) (hgr:w.heap.size≤w'.heap.size) (hos:w'.os=w.os) (ht:w'.tape=w.tape) (ho:w'.output=w.output)
  (hown:Owns X id blk (s id)∨w.heap.size≤blk) (hs':s' id=some (.row e sz k cs)) (hmt:X.mt id k=none∨X.mt id k=some (blk,cap)) (hmt2:∀ j,k < j→X.mt id j=none) (hmb:X.mb id=none) :
  Post X (X.ver id k blk cap) w w' s s' W∧R (X.ver id k blk cap) (.ms id k) (.slice (some ⟨blk,0,none⟩) k cap):=by
 have hmtk:(X.ver id k blk cap).mt id k=some (blk,cap):=by simp [Map.ver]
 have hle:X.Le (X.ver id k blk cap):=by
  refine ⟨fun _ _ _ h=>h,fun _ _ hb=>hb,fun i n p hp=>?_,rfl⟩
  by_cases hc:i=id∧n=k
  ·obtain ⟨rfl,rfl⟩:=hc
   rcases hmt with hm|hm
   ·rw [hm] at hp;cases hp
   ·rw [hm] at hp;cases hp;exact hmtk
  ·simp only [Map.ver,if_neg hc];exact hp
 refine ⟨⟨hle,⟨fun b o v hv=>?_,h.2.keep hle.M (fun g hv hg=>hkeep g hg (fun e=>by obtain ⟨v,hv⟩:=hv;rw [e,hM] at hv;cases hv))⟩,hgr,hos,ht,ho,fun i hi hnot=>?_,fun b o v hv=>.inl hv,fun i hi=>⟨rfl,?_⟩,fun i hi=>?_,fun i b hi hb=>?_,fun i j _ hi hj _ _=>((hW i).1 hi).trans ((hW j).1 hj).symm⟩, .ms id k blk cap hmtk⟩
 ·by_cases hb:b=blk
  ·subst hb
   have hv':X.M b o=some v:=hv
   rw [hM] at hv';cases hv'
  ·have:=h.1 b o v hv
   have hlt:=World.block_lt_of_cell? w _ this
   rw [World.cell?_of_block (w:=w) (hkeep b hlt hb)];exact this
 ·by_cases hb:i=blk
  ·subst hb
   rcases hown with ho|ho
   ·exact absurd ho (hnot id ((hW id).2 rfl))
   ·omega
  ·exact hkeep i hi hb
 ·have hne:i≠id:=fun e=>hi ((hW i).2 e)
  funext n
  simp [Map.ver,hne]
 ·obtain rfl:=(hW i).1 hi
  rw [hs']
  refine ⟨blk,cap,vs,hmtk,hk,hc,hg,hvs,hM,fun j hj=>?_,hmb,h0,hlen,fun j c hj=>(hR j c hj).mono hle,hone⟩
  show (if i=i∧j=k then some (blk,cap) else X.mt i j)=none
  rw [if_neg (by omega)];exact hmt2 j hj
 ·obtain rfl:=(hW i).1 hi
  rw [hs'] at hb
  obtain ⟨c,hc⟩:=hb
  rw [hmtk] at hc;cases hc
  exact hown
theorem range_map_get {α:Type} (f:Nat→α) (n j:Nat) (v:α) (h:((List.range n).map f)[j]? = some v):v=f j∧j < n:=by
 simp only [List.getElem?_map,Option.map_eq_some_iff] at h
 obtain ⟨k,hk,rfl⟩:=h
 have:=lt_of_get hk
 simp at this
 rw [List.getElem?_range this] at hk
 cases hk
 exact ⟨rfl,this⟩
theorem range_map_some {α:Type} (f:Nat→α) {n j:Nat} (h:j < n):((List.range n).map f)[j]? = some (f j):=by
 simp [List.getElem?_range h]
theorem zeroOk_spec {e:TypeId} {sz:Nat} (h:zeroOkP P e sz=true) {i:TypeInfo} (hi:P.info? e=some i):∃ z,i.zero=some z∧z.cells.size=sz:=by
 unfold zeroOkP zeroP at h
 rw [hi] at h
 cases hz:i.zero with
 | none=>simp [hz] at h
 | some z =>
  simp only [hz] at h
  refine ⟨z,rfl,?_⟩
  split at h
  ·rename_i cs hc
   have:=(R_ofConst (⟨fun _ _=>none,fun _=>none,fun _ _=>none,fun _=>.any⟩:Map) z).cells hc
   simp at h
   omega
  ·cases h
theorem one_zeroCells {z:Value} {n:Nat} (h:∀ v∈z.cells,v.oneCell'=true):∀ v∈Builtin.zeroCells z.cells n,v.oneCell'=true:=fun v hv=>by
 simp only [Builtin.zeroCells,Array.mem_map,Array.mem_range] at hv
 obtain ⟨j,hj,rfl⟩:=hv
 have hpos:0 < z.cells.size:=by
  rcases Nat.eq_zero_or_pos z.cells.size with h0|h0
  ·rw [h0,Nat.mul_zero] at hj;omega
  ·exact h0
 have hm:j % z.cells.size < z.cells.size:=Nat.mod_lt _ hpos
 rw [getElem!_pos z.cells _ hm]
 exact h _ (Array.getElem_mem hm)
theorem zeroOk_one {e:TypeId} {sz:Nat} (h:zeroOkP P e sz=true) {i:TypeInfo} (hi:P.info? e=some i) {z:Value} (hz:i.zero=some z):∀ v∈z.cells,v.oneCell'=true:=by
 unfold zeroOkP zeroP at h
 rw [hi] at h
 simp only [hz] at h
 split at h
 ·rename_i cs hc
  exact ((R_ofConst (⟨fun _ _=>none,fun _=>none,fun _ _=>none,fun _=>.any⟩:Map) z).cells hc).2.2
 ·cases h
theorem post_append_nil (h:X.Ok w) {t e:TypeId} {sz id:Nat} (ht:P.underlying t=some (.slice e)) (hsz:sizeP P e=some sz) (hz:zeroOkP P e sz=true)
  {ys:List PV} {vy:Value} (hy:R X (.slice sz ys) vy) (hne:ys≠[]) (h63:ys.length≤maxLen) (hby:ys.length*bytesP P e≤140737488355328)
  {s s':Nat→Option Res} (hn:ResOk X w id none) (hs':s' id=some (.row e sz ys.length (ys.flatMap PV.cellsD))) {W:Nat→Prop} (hW:∀ i,W i↔i=id) (ty:TypeId) :
  ∃ v w' X',(Builtin.append_ #[t,t] ty #[.slice none 0 0,vy]).run P w = .ok v w'∧Post X X' w w' s s' W∧R X' (.ms id ys.length) v:=by
 obtain ⟨i,d,hi,hisz,_⟩:=sizeP_some hsz
 obtain ⟨z,hzz,hzs⟩:=zeroOk_spec hz hi
 have hz1:=zeroOk_one hz hi hzz
 have hbytes:bytesP P e=i.bytes:=by simp [bytesP,hi]
 rw [hbytes] at hby
 cases hy with
 | slice _ _ b o c u h1 h2 h3 h4 h5 h6 =>
  have hfl:=flat_len sz ys h1
  have hpos:0 < ys.length:=by cases ys with|nil=>exact absurd rfl hne|cons _ _=>simp
  have hnews:∀ j v,((List.range (ys.length*sz)).map u)[j]? = some v→w.cell? ((⟨b,o,none⟩:Addr).add j)=some v:=by
   intro j v hj
   obtain ⟨rfl,hj⟩:=range_map_get _ _ _ _ hj
   rw [Addr.add_lit]
   exact h.1 _ _ _ (h4 j _ (List.getElem?_eq_getElem (by omega)))
  have hr:=run_append_nil (P:=P) w t ty e i z ht hi hzz ⟨b,o,none⟩ ys.length c ((List.range (ys.length*sz)).map u) (by simp [hisz]) hnews hpos (by simp only [maxLen] at h63;omega) (by omega)
  have hge:=grownCap_ge w ys.length 0 e
  have hcm:=grownCap_le_maxLen w ys.length 0 e h63
  obtain ⟨p1,p2⟩:=post_row (w':=w.drew.alloc (.cells (((List.range (ys.length*sz)).map u).toArray++Builtin.zeroCells z.cells (grownCap w ys.length 0 e - ys.length)) e)) (blk:=w.heap.size) (cap:=grownCap w ys.length 0 e) (cs:=ys.flatMap PV.cellsD) h hW (heap_alloc_new w.drew _) (by
    simp only [Array.size_append,List.size_toArray,List.length_map,List.length_range,size_zeroCells,hzs,← Nat.add_mul]
    congr 1;omega) hge hcm (fun o=>h.none (Nat.le_refl _) o) h2 hfl (fun j c hj=>by
    have hlt:=lt_of_get hj
    have e1:(((List.range (ys.length*sz)).map u).toArray++Builtin.zeroCells z.cells (grownCap w ys.length 0 e - ys.length)).getD j Go.undef=u j:=by
     refine getD_of ?_
     rw [Array.getElem?_append_left (by simp;omega),List.getElem?_toArray]
     exact range_map_some u (by omega)
    rw [e1];exact h5 j c hj) (fun v hv=>by
    rcases Array.mem_append.1 hv with hv|hv
    ·simp only [List.mem_toArray,List.mem_map,List.mem_range] at hv
     obtain ⟨j,hj,rfl⟩:=hv
     exact (h6 j _ (List.getElem?_eq_getElem (by omega))).1
    ·exact one_zeroCells hz1 v hv) (fun k hk _=>heap_alloc_old w.drew _ k hk) (by simp) rfl rfl rfl (.inr (Nat.le_refl _)) hs' (.inl (hn.2 _)) (fun j _=>hn.2 j) hn.1
  exact ⟨_,_,_,hr,p1,p2⟩
theorem post_append_own (h:X.Ok w) {t e:TypeId} {sz id n:Nat} (ht:P.underlying t=some (.slice e)) (hsz:sizeP P e=some sz) (hz:zeroOkP P e sz=true)
  {cs ys:List PV} {vx vy:Value} (hx:R X (.ms id n) vx) (hy:R X (.slice sz ys) vy) (h63:n+ys.length≤maxLen) (hby:(n+ys.length)*bytesP P e≤140737488355328)
  {s s':Nat→Option Res} (hn:ResOk X w id (some (.row e sz n cs))) (hs:s id=some (.row e sz n cs)) (hs':s' id=some (.row e sz (n+ys.length) (cs++ys.flatMap PV.cellsD))) {W:Nat→Prop} (hW:∀ i,W i↔i=id) (ty:TypeId) :
  ∃ v w' X',(Builtin.append_ #[t,t] ty #[vx,vy]).run P w = .ok v w'∧Post X X' w w' s s' W∧R X' (.ms id (n+ys.length)) v:=by
 obtain ⟨i,d,hi,hisz,_⟩:=sizeP_some hsz
 obtain ⟨z,hzz,hzs⟩:=zeroOk_spec hz hi
 have hz1:=zeroOk_one hz hi hzz
 have hbytes:bytesP P e=i.bytes:=by simp [bytesP,hi]
 rw [hbytes] at hby
 obtain ⟨g,cap,cur,r1,r2,r3,r4,r5,r6,r7,r8,r9,q1,q2,q3⟩:=hn
 cases hy with
 | slice _ _ by_ oy cy uy y1 y2 y3 y4 y5 y6 =>
 cases hx with
 | ms _ _ g' cap' hmt =>
  rw [r1] at hmt
  cases hmt
  have hfly:=flat_len sz ys y1
  have hncur:n*sz≤cap*sz:=Nat.mul_le_mul_right _ r2
  have hnews:∀ j v,((List.range (ys.length*sz)).map uy)[j]? = some v→w.cell? ((⟨by_,oy,none⟩:Addr).add j)=some v:=by
   intro j v hj
   obtain ⟨rfl,hj⟩:=range_map_get _ _ _ _ hj
   rw [Addr.add_lit]
   exact h.1 _ _ _ (y4 j _ (List.getElem?_eq_getElem (by omega)))
  have hone:∀ q∈(List.range (ys.length*sz)).map uy,q.oneCell'=true:=fun q hq=>by
   obtain ⟨j,hj,rfl⟩:=List.mem_map.1 hq
   rw [List.mem_range] at hj
   exact (y6 j _ (List.getElem?_eq_getElem (by omega))).1
  have hcl:(cs++ys.flatMap PV.cellsD).length=(n+ys.length)*sz:=by rw [List.length_append,q1,hfly,Nat.add_mul]
  have tell:∀ (l:Array Value),(∀ j,j < n*sz→l[j]? = some (cur.getD j Go.undef))→(∀ j,j < ys.length*sz→l[n*sz+j]? = some (uy j))→∀ j c,(cs++ys.flatMap PV.cellsD)[j]? = some c→R X c (l.getD j Go.undef):=by
   intro l h1 h2 j c hj
   by_cases hlt:j < n*sz
   ·rw [List.getElem?_append_left (by omega)] at hj
    rw [getD_of (h1 j hlt)];exact q2 j c hj
   ·rw [List.getElem?_append_right (by omega),q1] at hj
    have hlt2:=lt_of_get hj
    have:=h2 (j - n*sz) (by omega)
    rw [show n*sz+(j - n*sz)=j by omega] at this
    rw [getD_of this];exact y5 _ c hj
  have hcurs:∀ j,j < n*sz→cur[j]? = some (cur.getD j Go.undef):=fun j hj=>some_getD (by omega)
  by_cases hroom:n+ys.length≤cap
  ·have hfit:n*i.size+((List.range (ys.length*sz)).map uy).length≤cur.size:=by
    rw [r5,hisz];simp only [List.length_map,List.length_range];rw [← Nat.add_mul];exact Nat.mul_le_mul_right _ hroom
   have hr:=run_append_room (P:=P) w t ty e i ht hi g n cap cur r4 ⟨by_,oy,none⟩ ys.length cy ((List.range (ys.length*sz)).map uy) (by simp [hisz]) hnews hone hroom hfit
   rw [hisz] at hr hfit
   have hsp:=splice_get cur.toList (n*sz) ((List.range (ys.length*sz)).map uy) (by simpa using hfit)
   obtain ⟨p1,p2⟩:=post_row (s:=s) (sz:=sz) (cap:=cap) (k:=n+ys.length) (cs:=cs++ys.flatMap PV.cellsD) h hW (setRow_heap w g cur (cur.toList.take (n*sz)++(List.range (ys.length*sz)).map uy++cur.toList.drop (n*sz+((List.range (ys.length*sz)).map uy).length)).toArray e _ r4) (by
     simp only [List.size_toArray,List.length_append,List.length_take,List.length_drop,Array.length_toList] at hfit ⊢
     omega) hroom r3 r6 r9 hcl (tell _ (fun j hj=>by
     rw [List.getElem?_toArray,hsp j,if_pos hj];simpa using hcurs j hj) (fun j hj=>by
     rw [List.getElem?_toArray,hsp,if_neg (by omega),if_pos (by simp;omega),Nat.add_sub_cancel_left];exact range_map_some uy hj)) (fun v hv=>by
     simp only [List.mem_toArray,List.mem_append] at hv
     rcases hv with (hv|hv)|hv
     ·exact q3 v (by simpa using List.mem_of_mem_take hv)
     ·exact hone v hv
     ·exact q3 v (by simpa using List.mem_of_mem_drop hv)) (fun k _ hk=>setRow_other w g k _ hk) (by simp) rfl rfl rfl (.inl (by rw [hs];exact ⟨cap,r1⟩)) hs' (by
     rcases Nat.eq_zero_or_pos ys.length with hz|hp
     ·rw [hz];exact .inr r1
     ·exact .inl (r7 _ (by omega))) (fun j hj=>r7 j (by omega)) r8
   exact ⟨_,_,_,hr,p1,p2⟩
  ·have holds:∀ j v,((List.range (n*sz)).map fun j=>cur.getD j Go.undef)[j]? = some v→w.cell? ((⟨g,0,none⟩:Addr).add j)=some v:=by
    intro j v hj
    obtain ⟨rfl,hj'⟩:=range_map_get _ _ _ _ hj
    rw [Addr.add_lit,Nat.zero_add,cell_of_row _ _ _ _ _ _ r4]
    exact hcurs j hj'
   have hr:=run_append_grow (P:=P) w t ty e i z ht hi hzz ⟨g,0,none⟩ n cap ((List.range (n*sz)).map fun j=>cur.getD j Go.undef) (by simp [hisz]) holds ⟨by_,oy,none⟩ ys.length cy ((List.range (ys.length*sz)).map uy) (by simp [hisz]) hnews (by omega) (by simp only [maxLen] at h63;omega) (growslice_fits (by omega) hby)
   have hge:=grownCap_ge w (n+ys.length) cap e
   have hcm:=grownCap_le_maxLen w (n+ys.length) cap e h63
   have hpos:0 < ys.length:=by omega
   obtain ⟨p1,p2⟩:=post_row (sz:=sz) (w':=w.drew.alloc (.cells ((((List.range (n*sz)).map fun j=>cur.getD j Go.undef).toArray++((List.range (ys.length*sz)).map uy).toArray)++Builtin.zeroCells z.cells (grownCap w (n+ys.length) cap e - (n+ys.length))) e)) (blk:=w.heap.size) (cap:=grownCap w (n+ys.length) cap e) (k:=n+ys.length) (cs:=cs++ys.flatMap PV.cellsD) h hW (heap_alloc_new w.drew _) (by
     simp only [Array.size_append,List.size_toArray,List.length_map,List.length_range,size_zeroCells,hzs,← Nat.add_mul]
     congr 1;omega) hge hcm (fun o=>h.none (Nat.le_refl _) o) r9 hcl (tell _ (fun j hj=>by
     rw [Array.getElem?_append_left (by simp;omega),Array.getElem?_append_left (by simpa using hj),List.getElem?_toArray]
     exact range_map_some (fun j=>cur.getD j Go.undef) hj) (fun j hj=>by
     rw [Array.getElem?_append_left (by simp;omega),Array.getElem?_append_right (by simp),List.getElem?_toArray]
     simp only [List.size_toArray,List.length_map,List.length_range,Nat.add_sub_cancel_left]
     exact range_map_some uy hj)) (fun v hv=>by
     rcases Array.mem_append.1 hv with hv|hv
     ·rcases Array.mem_append.1 hv with hv|hv
      ·simp only [List.mem_toArray,List.mem_map,List.mem_range] at hv
       obtain ⟨j,hj,rfl⟩:=hv
       exact q3 _ (Array.mem_of_getElem? (hcurs j hj))
      ·exact hone v (by simpa using hv)
     ·exact one_zeroCells hz1 v hv) (fun k hk _=>heap_alloc_old w.drew _ k hk) (by simp) rfl rfl rfl (.inr (Nat.le_refl _)) hs' (.inl (r7 _ (by omega))) (fun j hj=>r7 j (by omega)) r8
   exact ⟨_,_,_,hr,p1,p2⟩
end
open Go Go.RowKit
section
variable {P:Program} {X:Map} {w:World}
structure RCells (X:Map) (cs:List PV) (vs:Array Value):Prop where
 size:vs.size=cs.length
 rel:∀ j c,cs[j]? = some c→R X c (vs.getD j Go.undef)
 one:∀ v∈vs,v.oneCell'=true
theorem foldl_set_get:∀ (l:List Value) (off k:Nat) (vs:Array Value),off+k+l.length≤vs.size →
  ((l.zipIdx k).foldl (fun cs (p:Value × Nat)=>cs.setIfInBounds (off+p.2) p.1) vs).toList=vs.toList.take (off+k)++l++vs.toList.drop (off+k+l.length)
 | [],off,k,vs,_=>by simp
 | v::l,off,k,vs,h=>by
  simp only [List.zipIdx_cons,List.foldl_cons]
  rw [foldl_set_get l off (k+1) (vs.setIfInBounds (off+k) v) (by simp at h ⊢;omega)]
  have h':off+k < vs.toList.length:=by simp at h ⊢;omega
  simp only [Array.toList_setIfInBounds,List.length_cons]
  rw [List.set_eq_take_append_cons_drop,if_pos h']
  have e1:(vs.toList.take (off+k)).length=off+k:=by simp at h' ⊢;omega
  rw [show off+(k+1)=(vs.toList.take (off+k)).length+1 by omega]
  rw [List.take_length_add_append,show (vs.toList.take (off+k)).length+1+l.length=(vs.toList.take (off+k)).length+(1+l.length) by omega]
  rw [List.drop_length_add_append]
  simp only [List.take_succ_cons,List.take_zero,List.append_assoc,List.singleton_append]
  rw [show 1+l.length=l.length+1 by omega,List.drop_succ_cons,List.drop_drop]
  rw [show off+k+1+l.length=off+k+(l.length+1) by omega]
theorem run_fill {place:Nat→Option (Nat × Nat)}:∀ (pp:List (Nat × PV)) (pv:List (Nat × Value)),pp.length=pv.length→(∀ (j i:Nat) (p:PV),pp[j]? = some (i,p)→∃ v,pv[j]? = some (i,v)∧R X p v) →
  ∀ (cs:List PV) (vs:Array Value) (out:List PV),RCells X cs vs→fillP place cs pp=some out→∃ us,Instr.fill place vs pv=some us∧RCells X out us
 | [],[],_,_,cs,vs,out,hr,h=>by cases h;exact ⟨vs,rfl,hr⟩
 | (i,p)::pp,[],hl,_,_,_,_,_,_=>by simp at hl
 | [],_::_,hl,_,_,_,_,_,_=>by simp at hl
 | (i,p)::pp,(i',v)::pv,hl,hh,cs,vs,out,hr,h=>by
  obtain ⟨v',hv,hp⟩:=hh 0 i p rfl
  simp at hv
  obtain ⟨rfl,rfl⟩:=hv
  unfold fillP at h
  unfold Instr.fill
  split at h
  ·rename_i off sz ns hpl hns
   split at h
   ·rename_i hc
    obtain ⟨hsz,hfit⟩:=hc
    obtain ⟨c1,c2,c3⟩:=hp.cells hns
    simp only [hpl]
    have h1:=hr.size
    have hcond:¬ ((v.cells.size≠sz||decide (off+v.cells.size > vs.size))=true):=by
     simp;omega
    rw [if_neg hcond]
    refine run_fill pp pv (by simpa using hl) (fun j i p hj=>hh (j+1) i p (by simpa using hj)) (setAt cs off ns) _ out ?_ h
    have key:=foldl_set_get v.cells.toList off 0 vs (by simp;omega)
    have hfold:(v.cells.zipIdx.foldl (fun cs (p:Value × Nat)=>cs.setIfInBounds (off+p.2) p.1) vs)=(v.cells.toList.zipIdx.foldl (fun cs (p:Value × Nat)=>cs.setIfInBounds (off+p.2) p.1) vs):=by
     rw [← Array.foldl_toList,Array.toList_zipIdx]
    rw [Nat.add_zero] at key
    have hl1:v.cells.toList.length=ns.length:=by simpa using c1
    refine ⟨?_,fun j c hj=>?_,fun u hu=>?_⟩
    ·rw [← Array.length_toList,setAt_len _ _ _ hfit]
     show (Array.toList (v.cells.zipIdx.foldl (fun cs (p:Value × Nat)=>cs.setIfInBounds (off+p.2) p.1) vs)).length=_
     rw [hfold,key]
     simp;omega
    ·have hget:=splice_get vs.toList off v.cells.toList (by simp;omega) j
     rw [← key,← hfold] at hget
     rw [setAt_get _ _ _ hfit] at hj
     have hq:(v.cells.zipIdx.foldl (fun cs (p:Value × Nat)=>cs.setIfInBounds (off+p.2) p.1) vs)[j]? = some (if j < off then vs.getD j Go.undef else if j < off+ns.length then v.cells.getD (j - off) Go.undef else vs.getD j Go.undef):=by
      rw [← Array.getElem?_toList]
      refine hget.trans ?_
      by_cases k1:j < off
      ·rw [if_pos k1] at hj ⊢;rw [if_pos k1]
       have:=lt_of_get hj
       simpa using some_getD (vs:=vs) (j:=j) (by omega)
      ·rw [if_neg k1] at hj ⊢;rw [if_neg k1]
       by_cases k2:j < off+ns.length
       ·rw [if_pos k2] at hj;rw [if_pos (by omega),if_pos k2]
        have:=lt_of_get hj
        simpa using some_getD (vs:=v.cells) (j:=j - off) (by omega)
       ·rw [if_neg k2] at hj;rw [if_neg (by omega),if_neg k2]
        have:=lt_of_get hj
        simpa using some_getD (vs:=vs) (j:=j) (by omega)
     have e:=getD_of hq
     show R X c (Array.getD (v.cells.zipIdx.foldl (fun cs (p:Value × Nat)=>cs.setIfInBounds (off+p.2) p.1) vs) j Go.undef)
     rw [e]
     by_cases k1:j < off
     ·rw [if_pos k1] at hj ⊢;exact hr.rel j c hj
     ·rw [if_neg k1] at hj ⊢
      by_cases k2:j < off+ns.length
      ·rw [if_pos k2] at hj ⊢;exact c2 _ c hj
      ·rw [if_neg k2] at hj ⊢;exact hr.rel j c hj
    ·have hu':u∈(v.cells.zipIdx.foldl (fun cs (p:Value × Nat)=>cs.setIfInBounds (off+p.2) p.1) vs).toList:=by simpa using hu
     rw [hfold,key] at hu'
     simp only [List.mem_append] at hu'
     rcases hu' with (hu'|hu')|hu'
     ·exact hr.one u (by simpa using List.mem_of_mem_take hu')
     ·exact c3 u (by simpa using hu')
     ·exact hr.one u (by simpa using List.mem_of_mem_drop hu')
   ·cases h
  ·cases h
theorem zeroP_spec {t:TypeId} {z:PV} (h:zeroP P t=some z):∃ v,(zeroValue t).run P w = .ok v w∧∀ X,R X z v:=by
 unfold zeroP at h
 split at h
 ·rename_i i hi
  split at h
  ·rename_i v hv
   cases h
   exact ⟨v,by simp [zeroValue,typeInfo,hi,hv],fun X=>R_ofConst X v⟩
  ·cases h
 ·cases h
theorem gives_build {t:TypeId} {pp:List (Nat × PV)} {pv:Array (Nat × Value)} {p:PV} (hl:pp.length=pv.size) (hh:∀ (j i:Nat) (p:PV),pp[j]? = some (i,p)→∃ v,pv.toList[j]? = some (i,v)∧R X p v) (h:buildP P t pp=some p) :
  Gives P X w (Instr.build t pv) p:=by
 unfold buildP at h
 split at h
 ·rename_i fs ht
  split at h
  ·rename_i z hz
   split at h
   ·rename_i out hfill
    split at h
    ·rename_i hall
     cases h
     obtain ⟨zv,hzr,hzR⟩:=zeroP_spec (w:=w) hz
     obtain ⟨z1,z2,z3⟩:=(hzR X).cells (cs:=z) rfl
     obtain ⟨us,hus,hru⟩:=run_fill (X:=X) pp pv.toList (by simpa using hl) hh z zv.cells out ⟨z1,z2,z3⟩ hfill
     have hplaces:(fs.mapM (m:=Sem) fun f=>do pure (f.offset,← sizeOf f.type)).run P w = .ok (fs.map fun f=>(f.offset,(sizeP P f.type).getD 0)) w:=by
      rw [Array.mapM_eq_mapM_toList]
      have hlist:∀ l:List Field,(∀ f∈l,(sizeP P f.type).isSome=true)→(l.mapM (m:=Sem) fun f=>do pure (f.offset,← sizeOf f.type)).run P w = .ok (l.map fun f=>(f.offset,(sizeP P f.type).getD 0)) w:=by
       intro l
       induction l with
       | nil=>intro _;rfl
       | cons f l ih =>
        intro hl
        obtain ⟨n,hn⟩:=Option.isSome_iff_exists.1 (hl f (by simp))
        rw [List.mapM_cons]
        simp only [Sem.run_bind,run_sizeOf hn,Result.andThen_ok,Sem.run_pure,ih (fun g hg=>hl g (by simp [hg])),List.map_cons,hn,Option.getD_some]
      have:=hlist fs.toList (fun f hf=>Array.all_eq_true_iff_forall_mem.1 hall f (by simpa using hf))
      simp only [Sem.run_map,this,Result.andThen_ok]
      congr 1
      apply Array.ext'
      simp
     refine ⟨.agg us,?_, .agg _ _ hru.size hru.rel hru.one⟩
     simp only [Instr.build,Sem.run_bind,hzr,run_underlying ht,Result.andThen_ok,hplaces]
     have hpl:(fun (i:Nat)=>(fs.map fun f=>(f.offset,(sizeP P f.type).getD 0))[i]?)=placeP P fs:=by
      funext i
      unfold placeP
      rw [Array.getElem?_map]
      cases hf:fs[i]? with
      | none=>rfl
      | some f =>
       have hm:f∈fs:=Array.mem_of_getElem? hf
       obtain ⟨n,hn⟩:=Option.isSome_iff_exists.1 (Array.all_eq_true_iff_forall_mem.1 hall f hm)
       simp [hn]
     rw [hpl,hus]
     rfl
    ·cases h
   ·cases h
  ·cases h
 ·cases h
theorem chunk_flat (agg:Bool) (sz:Nat) (h:(agg||sz==1)=true):∀ (n:Nat) (cs:List PV),cs.length=n*sz→(agg=false→∀ c∈cs,c.cellsD=[c])→(chunkP agg sz n cs).flatMap PV.cellsD=cs∧(chunkP agg sz n cs).length=n∧∀ x∈chunkP agg sz n cs,x.cellsD.length=sz
 | 0,cs,hl,_=>by
  have:cs=[]:=List.eq_nil_of_length_eq_zero (by simpa using hl)
  subst this
  exact ⟨rfl,rfl,fun x hx=>by simp [chunkP] at hx⟩
 | n+1,cs,hl,hc=>by
  have hge:sz≤cs.length:=by rw [hl,Nat.add_mul];omega
  obtain ⟨i1,i2,i3⟩:=chunk_flat agg sz h n (cs.drop sz) (by rw [List.length_drop,hl,Nat.add_mul];omega) (fun ha c hm=>hc ha c (List.mem_of_mem_drop hm))
  have hd:(if agg then PV.agg (cs.take sz) else cs.headD .any).cellsD=cs.take sz:=by
   cases agg with
   | true=>rfl
   | false =>
    have h1:sz=1:=by simpa using h
    subst h1
    cases cs with
    | nil=>simp at hge
    | cons c r=>exact hc rfl c (by simp)
  refine ⟨?_,by simp [chunkP,i2],fun x hx=>?_⟩
  ·simp only [chunkP,List.flatMap_cons,hd,i1,List.take_append_drop]
  ·simp only [chunkP,List.mem_cons] at hx
   rcases hx with rfl|hx
   ·rw [hd,List.length_take];omega
   ·exact i3 x hx
theorem clean_cellsD {c:PV} (h:c.clean=true):c.cellsD=[c]:=by
 cases c<;>first|rfl|(simp [PV.clean] at h)
theorem fillP_len {place:Nat→Option (Nat × Nat)}:∀ (pp:List (Nat × PV)) (cs out:List PV),fillP place cs pp=some out→out.length=cs.length
 | [],cs,out,h=>by cases h;rfl
 | (i,p)::pp,cs,out,h=>by
  unfold fillP at h
  split at h
  ·split at h
   ·rename_i hc
    rw [fillP_len pp _ out h,setAt_len _ _ _ hc.2]
   ·cases h
  ·cases h
theorem post_buildSlice (hok:X.Ok w) {t:TypeId} {n:Nat} {pp:List (Nat × PV)} {pv:Array (Nat × Value)} {p:PV} (hl:pp.length=pv.size) (hh:∀ (j i:Nat) (p:PV),pp[j]? = some (i,p)→∃ v,pv.toList[j]? = some (i,v)∧R X p v)
  (h:buildSliceP P t n pp=some p) {s s':Nat→Option Res} {W:Nat→Prop} (hW:∀ i,¬ W i) :
  ∃ v w' X',(Instr.buildSlice t n pv).run P w = .ok v w'∧Post X X' w w' s s' W∧R X' p v:=by
 unfold buildSliceP at h
 split at h
 ·rename_i e ht
  split at h
  ·rename_i sz z hsz hz
   split at h
   ·rename_i zs hzs
    split at h
    ·rename_i hcond
     obtain ⟨c1,c2,c3,c4⟩:=hcond
     split at h
     ·rename_i out hfill
      split at h
      ·rename_i hclean
       cases h
       obtain ⟨zv,hzr,hzR⟩:=zeroP_spec (w:=w) hz
       obtain ⟨z1,z2,z3⟩:=(hzR X).cells hzs
       have hzl:zv.cells.size=sz:=by omega
       have h0:RCells X (zeroCellsP zs n sz) ((Array.range (n*sz)).map (zv.cells[· % zv.cells.size]!)):=by
        refine ⟨by simp [zeroCellsP],fun j c hj=>?_,fun v hv=>?_⟩
        ·obtain ⟨rfl,hj'⟩:=range_map_get _ _ _ _ hj
         have hm:j % zs.length < zs.length:=Nat.mod_lt _ (by omega)
         have e1:((Array.range (n*sz)).map (zv.cells[· % zv.cells.size]!)).getD j Go.undef=zv.cells.getD (j % zs.length) Go.undef:=by
          refine getD_of ?_
          simp only [Array.getElem?_map,Array.getElem?_range,hj',if_true,Option.map_some]
          congr 1
          rw [z1,getElem!_pos zv.cells (j % zs.length) (by omega)]
          exact (getD_of (Array.getElem?_eq_getElem (by omega))).symm
         rw [e1]
         refine z2 _ _ ?_
         rw [List.getD_eq_getElem?_getD,List.getElem?_eq_getElem hm]
         rfl
        ·simp only [Array.mem_map,Array.mem_range] at hv
         obtain ⟨j,hj,rfl⟩:=hv
         have hm:j % zv.cells.size < zv.cells.size:=Nat.mod_lt _ (by omega)
         rw [getElem!_pos zv.cells _ hm]
         exact z3 _ (Array.getElem_mem hm)
       obtain ⟨us,hus,hru⟩:=run_fill (X:=X) pp pv.toList (by simpa using hl) hh _ _ out h0 hfill
       have hlen:out.length=n*sz:=by rw [fillP_len _ _ _ hfill];simp [zeroCellsP]
       have hcl:∀ c∈out,c.clean=true:=fun c hc=>List.all_eq_true.1 hclean c hc
       obtain ⟨f1,f2,f3⟩:=chunk_flat (aggP P e) sz c4 n out hlen (fun _ c hc=>clean_cellsD (hcl c hc))
       have hpost:=post_settle (s:=s) (s':=s') hok (w0:=w) rfl rfl rfl rfl us e hW
       refine ⟨.slice (some ⟨w.heap.size,0,none⟩) n n,_,_,?_,hpost,?_⟩
       ·have hlim:¬ (n*sz > 2 ^ 24):=by simp;omega
        simp only [Instr.buildSlice,Sem.run_bind,run_underlying ht,Result.andThen_ok,run_sizeOf hsz,Sem.run_ite,if_neg hlim,Sem.run_pure]
        by_cases hq:n*sz=0
        ·rw [if_pos hq]
         have hE:(Array.range (n*sz)).map ((#[]:Array Value)[· % (#[]:Array Value).size]!)=(Array.range (n*sz)).map (zv.cells[· % zv.cells.size]!):=by
          rw [hq];simp
         rw [hE,hus]
         rfl
        ·rw [if_neg hq,hzr]
         simp only [Result.andThen_ok,hus]
         rfl
       ·have hR:∀ q:List PV,q=chunkP (aggP P e) sz n out→R (X.settle w.heap.size us) (.slice sz q) (.slice (some ⟨w.heap.size,0,none⟩) q.length q.length):=by
         rintro q hq
         rw [← hq] at f1 f2 f3
         have hsz':∀ j,j < out.length→us[j]? = some (us.getD j Go.undef):=fun j hj=>some_getD (by rw [hru.size];exact hj)
         have hle:=hpost.le
         refine .slice sz q w.heap.size 0 _ (fun j=>us.getD j Go.undef) f3 c2 (Nat.le_refl _) (fun j c hj=>?_) (fun j c hj=>?_) (fun j c hj=>?_)
         ·rw [f1] at hj
          simp only [Map.settle,if_true,Nat.zero_add]
          exact hsz' j (lt_of_get hj)
         ·rw [f1] at hj
          exact (hru.rel j c hj).mono hle
         ·rw [f1] at hj
          refine ⟨hru.one _ ?_,hcl c (List.mem_of_getElem? hj)⟩
          exact Array.mem_of_getElem? (hsz' j (lt_of_get hj))
        have:=hR _ rfl
        rw [f2] at this
        exact this
      ·cases h
     ·cases h
    ·cases h
   ·cases h
  ·cases h
 ·cases h
theorem zeroCells_ok {z:PV} {zs:List PV} {zv:Value} (hzs:z.cells=some zs) (hzR:∀ X,R X z zv) {n sz:Nat} (c2:0 < sz) (c3:zs.length=sz):RCells X (zeroCellsP zs n sz) ((Array.range (n*sz)).map (zv.cells[· % zv.cells.size]!)):=by
 obtain ⟨z1,z2,z3⟩:=(hzR X).cells hzs
 refine ⟨by simp [zeroCellsP],fun j c hj=>?_,fun v hv=>?_⟩
 ·obtain ⟨rfl,hj'⟩:=range_map_get _ _ _ _ hj
  have hm:j % zs.length < zs.length:=Nat.mod_lt _ (by omega)
  have e1:((Array.range (n*sz)).map (zv.cells[· % zv.cells.size]!)).getD j Go.undef=zv.cells.getD (j % zs.length) Go.undef:=by
   refine getD_of ?_
   simp only [Array.getElem?_map,Array.getElem?_range,hj',if_true,Option.map_some]
   congr 1
   rw [z1,getElem!_pos zv.cells (j % zs.length) (by omega)]
   exact (getD_of (Array.getElem?_eq_getElem (by omega))).symm
  rw [e1]
  refine z2 _ _ ?_
  rw [List.getD_eq_getElem?_getD,List.getElem?_eq_getElem hm]
  rfl
 ·simp only [Array.mem_map,Array.mem_range] at hv
  obtain ⟨j,hj,rfl⟩:=hv
  have hm:j % zv.cells.size < zv.cells.size:=Nat.mod_lt _ (by omega)
  rw [getElem!_pos zv.cells _ hm]
  exact z3 _ (Array.getElem_mem hm)
theorem post_ownSlice (hok:X.Ok w) {t:TypeId} {n:Nat} {pp:List (Nat × PV)} {pv:Array (Nat × Value)} {s:List Res} {out:Out} (hl:pp.length=pv.size) (hh:∀ (j i:Nat) (p:PV),pp[j]? = some (i,p)→∃ v,pv.toList[j]? = some (i,v)∧R X p v)
  (h:ownSliceP P s t n pp=some out) (hn:ResOk X w s.length none) :
  ∃ v w' X',(Instr.buildSlice t n pv).run P w = .ok v w'∧Post X X' w w' (fun i=>s[i]?) (fun i=>out.s[i]?) (fun id=>id∈out.wr∨(s.length≤id∧id < out.s.length))∧R X' out.v v:=by
 unfold ownSliceP at h
 split at h
 ·rename_i e ht
  split at h
  ·rename_i sz z hsz hz
   split at h
   ·rename_i zs hzs
    split at h
    ·rename_i hcond
     obtain ⟨c1,c2,c3,c4⟩:=hcond
     split at h
     ·rename_i cs hfill
      cases h
      obtain ⟨zv,hzr,hzR⟩:=zeroP_spec (w:=w) hz
      obtain ⟨us,hus,hru⟩:=run_fill (X:=X) pp pv.toList (by simpa using hl) hh _ _ cs (zeroCells_ok hzs hzR (n:=n) c2 c3) hfill
      have hlen:cs.length=n*sz:=by rw [fillP_len _ _ _ hfill];simp [zeroCellsP]
      have hlim:¬ (n*sz > 2 ^ 24):=by simp;omega
      have hrun:(Instr.buildSlice t n pv).run P w = .ok (.slice (some ⟨w.heap.size,0,none⟩) n n) (w.alloc (.cells us e)):=by
       simp only [Instr.buildSlice,Sem.run_bind,run_underlying ht,Result.andThen_ok,run_sizeOf hsz,Sem.run_ite,if_neg hlim,Sem.run_pure]
       by_cases hq:n*sz=0
       ·rw [if_pos hq]
        have hE:(Array.range (n*sz)).map ((#[]:Array Value)[· % (#[]:Array Value).size]!)=(Array.range (n*sz)).map (zv.cells[· % zv.cells.size]!):=by
         rw [hq];simp
        rw [hE,hus]
        rfl
       ·rw [if_neg hq,hzr]
        simp only [Result.andThen_ok,hus]
        rfl
      obtain ⟨p1,p2⟩:=post_row (s:=fun i=>s[i]?) (s':=fun i=>(s++[.row e sz n cs])[i]?) (id:=s.length) (W:=fun id=>id∈([]:List Nat)∨(s.length≤id∧id < (s++[Res.row e sz n cs]).length)) (k:=n) (cap:=n) hok (fun i=>by simp;omega) (heap_alloc_new w (.cells us e)) (by rw [hru.size,hlen]) (Nat.le_refl _) c4 (fun o=>hok.none (Nat.le_refl _) o) c2 hlen hru.rel hru.one
       (fun i hi _=>heap_alloc_old w _ i hi) (by simp) rfl rfl rfl (.inr (Nat.le_refl _)) (by simp) (.inl (hn.2 _)) (fun j _=>hn.2 j) hn.1
      exact ⟨_,_,_,hrun,p1,p2⟩
     ·cases h
    ·cases h
   ·cases h
  ·cases h
 ·cases h
theorem post_makeSlice (hok:X.Ok w) {t:TypeId} {pl pc:PV} {vl vc:Value} {s:List Res} {out:Out} (hl:R X pl vl) (hc:R X pc vc) (h:makeSliceP P s t pl pc=some out) (hn:ResOk X w s.length none) :
  ∃ v w' X',(Instr.makeSlice t vl vc).run P w = .ok v w'∧Post X X' w w' (fun i=>s[i]?) (fun i=>out.s[i]?) (fun id=>id∈out.wr∨(s.length≤id∧id < out.s.length))∧R X' out.v v:=by
 unfold makeSliceP at h
 split at h
 ·rename_i k n k' m
  cases hl;cases hc
  split at h
  ·rename_i hcnd
   obtain ⟨rfl,h0,h1⟩:=hcnd
   split at h
   ·rename_i e ht
    split at h
    ·rename_i hby
     unfold ownSliceP at h
     rw [ht] at h
     dsimp only at h
     split at h
     ·rename_i sz z hsz hz
      split at h
      ·rename_i zs hzs
       split at h
       ·rename_i hcond
        obtain ⟨c1,c2,c3,c4⟩:=hcond
        cases h
        obtain ⟨zv,hzr,hzR⟩:=zeroP_spec (w:=w) hz
        have hru:=zeroCells_ok (X:=X) hzs hzR (n:=n.toNat) c2 c3
        obtain ⟨i,d,hi,hisz,_⟩:=sizeP_some hsz
        have hbytes:bytesP P e=i.bytes:=by simp [bytesP,hi]
        rw [hbytes] at hby
        have hwrap:IntKind.i64.wrap n=n:=by rw [IntKind.wrap_i64];omega
        have hmul:(i.bytes:Int)*n≤1048576*1048576:=Int.mul_le_mul (by omega) h1 h0 (by omega)
        have hrun:(Instr.makeSlice t (.int k n) (.int k' n)).run P w = .ok (.slice (some ⟨w.heap.size,0,none⟩) n.toNat n.toNat) (w.alloc (.cells ((Array.range (n.toNat*sz)).map (zv.cells[· % zv.cells.size]!)) e)):=by
         have hc1:¬ ((decide (n < 0)||decide ((i.bytes:Int)*n > 2 ^ 48)||decide (n < 0)||decide (n > n))=true):=by simp;omega
         simp only [Instr.makeSlice,Sem.run_bind,run_underlying ht,Result.andThen_ok,asInt,asIntOf,Sem.run_pure,typeInfo,run_program,hi,hwrap,if_neg hc1,run_askRoom,run_sizeOf hsz]
         by_cases hq:n.toNat*sz=0
         ·simp only [if_pos hq,Sem.run_bind,Sem.run_pure,Result.andThen_ok]
          have hE:(Array.range (n.toNat*sz)).map ((#[]:Array Value)[· % (#[]:Array Value).size]!)=(Array.range (n.toNat*sz)).map (zv.cells[· % zv.cells.size]!):=by
           rw [hq];simp
          rw [hE]
          rfl
         ·simp only [if_neg hq,Sem.run_bind,hzr,Result.andThen_ok,Sem.run_pure]
          rfl
        obtain ⟨p1,p2⟩:=post_row (s:=fun i=>s[i]?) (s':=fun i=>(s++[.row e sz n.toNat (zeroCellsP zs n.toNat sz)])[i]?) (id:=s.length) (W:=fun id=>id∈([]:List Nat)∨(s.length≤id∧id < (s++[Res.row e sz n.toNat (zeroCellsP zs n.toNat sz)]).length)) (k:=n.toNat) (cap:=n.toNat) hok (fun i=>by simp;omega) (heap_alloc_new w (.cells ((Array.range (n.toNat*sz)).map (zv.cells[· % zv.cells.size]!)) e)) (by simp) (Nat.le_refl _) c4 (fun o=>hok.none (Nat.le_refl _) o) c2 (by simp [zeroCellsP]) hru.rel hru.one
         (fun i hi _=>heap_alloc_old w _ i hi) (by simp) rfl rfl rfl (.inr (Nat.le_refl _)) (by simp) (.inl (hn.2 _)) (fun j _=>hn.2 j) hn.1
        exact ⟨_,_,_,hrun,p1,p2⟩
       ·cases h
      ·cases h
     ·cases h
    ·cases h
   ·cases h
  ·cases h
 ·cases h
end
end Go.Proofs.YtdlkibeljkapeaaGreatDoor.Den
