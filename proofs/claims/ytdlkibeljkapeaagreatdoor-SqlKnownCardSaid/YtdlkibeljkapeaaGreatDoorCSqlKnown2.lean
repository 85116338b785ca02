-- Written by drive.py and pack.py (programs of this proof's own) through the kit's printer; not trusted: Lean checks it.
import Derived.Test.YtdlkibeljkapeaaGreatDoorCSqlKnown1
import Derived.LoopN
import Derived.IntWalk
import Derived.OpenShut
import Derived.WideShapes
import Derived.ChangeSlices
import Derived.Test.YtdlkibeljkapeaaGreatDoorProg
import Derived.HandedShaped
import Derived.Lib.LaidTab
import Derived.Lib.LaidU8
import Derived.LaidMore
import Derived.Lay
import Derived.Shelf.Vars
import Derived.MakeChecks
import Derived.Shelf.Strings.Builder1
import Derived.Shelf.Strings.Builder2
import Derived.Shelf.Strings.Trim
import Derived.Shelf.Small.Utf8
import Derived.Shelf.Small.Strs
import Derived.Shelf.Strings.BuilderF
import Derived.Shelf.Strconv.Itoa0
import Derived.Shelf.Strconv.Itoa1
import Derived.Shelf.LaysM
import Derived.Shelf.Strconv.Itoa2
import Derived.Shelf.Strconv.Itoa3
import Derived.Shelf.Strings.Search1
import Derived.Shelf.Strings.Search2
import Derived.Shelf.Strings.Search3
import Derived.Shelf.Strings.Cut
import Derived.Shelf.Strings.Count
import Derived.Shelf.Strings.Shaped
import Derived.Shelf.Strings.Prefix
import Derived.Shelf.Strings.Split
import Derived.Shelf.Strings.Fields
import Derived.Shelf.Strings.Replace
import Derived.Shelf.Strings.SplitShaped
import Derived.Shelf.Unicode.Latin
import Derived.Shelf.Strings.Runes
import Derived.Shelf.Strings.AsciiSet
import Derived.Shelf.Bits.Mul64
import Derived.Shelf.Strings.Repeat
import Derived.Shelf.Unicode.DecodeSlow
import Derived.Shelf.Unicode.Is16White
import Derived.Shelf.Unicode.IsSpaceAny
import Derived.Shelf.Unicode.Is16Any
import Derived.Shelf.Unicode.Is32Any
import Derived.Shelf.Unicode.ExclAny
namespace Go.Proofs.YtdlkibeljkapeaaGreatDoor.Den
open Go Go.RowKit
def sub0 (nu:Nat→PV):PV→PV
 | .atom j=>nu j
 | p=>p
def sub1 (nu:Nat→PV):PV→PV
 | .agg cs=>.agg (cs.map (sub0 nu))
 | p=>sub0 nu p
def sub2 (nu:Nat→PV):PV→PV
 | .tup vs=>.tup (vs.map (sub1 nu))
 | p=>sub1 nu p
mutual
def PV.pure:PV→Bool
 | .atom _=>false
 | .ref cs=>PV.pureL cs
 | .slice _ xs=>PV.pureL xs
 | .agg cs=>PV.pureL cs
 | .tup vs=>PV.pureL vs
 | .fn _ a b=>PV.pureL a&&PV.pureL b
 | _=>true
def PV.pureL:List PV→Bool
 | []=>true
 | v::r=>PV.pure v&&PV.pureL r
end
theorem pureL_mem:∀ {l:List PV},PV.pureL l=true→∀ x∈l,x.pure=true
 | [],_,x,hx=>by simp at hx
 | v::r,h,x,hx=>by
  simp only [PV.pureL,Bool.and_eq_true] at h
  rcases List.mem_cons.1 hx with rfl|hx
  ·exact h.1
  ·exact pureL_mem h.2 x hx
theorem pure_cellsD {c:PV} (h:c.pure=true):∀ d∈c.cellsD,d.pure=true:=by
 intro d hd
 cases c with
 | agg cs=>simp only [PV.pure] at h;exact pureL_mem h d hd
 | _=>simp only [PV.cellsD,List.mem_singleton] at hd;subst hd;exact h
theorem pure_flat {xs:List PV} (h:PV.pureL xs=true):∀ d∈xs.flatMap PV.cellsD,d.pure=true:=by
 intro d hd
 obtain ⟨x,hx,hd⟩:=List.mem_flatMap.1 hd
 exact pure_cellsD (pureL_mem h x hx) d hd
def Map.setNu (X:Map) (nu:Nat→PV):Map:={ X with nu:=nu }
theorem R.setNu {X:Map} (nu:Nat→PV) {p:PV} {v:Value} (h:R X p v) (hp:p.pure=true):R (X.setNu nu) p v:=by
 induction h with
 | any v=>exact .any v
 | undef=>exact .undef
 | bool b=>exact .bool b
 | int k n=>exact .int k n
 | str s=>exact .str s
 | nilptr=>exact .nilptr
 | box id off b hb=>exact .box id off b hb
 | ref cs b o u h1 _ h3 ih =>
  simp only [PV.pure] at hp
  exact .ref cs b o u h1 (fun j c hc=>ih j c hc (pureL_mem hp c (List.mem_of_getElem? hc))) h3
 | slice sz xs b o cap u h1 h2 h3 h4 _ h6 ih =>
  simp only [PV.pure] at hp
  exact .slice sz xs b o cap u h1 h2 h3 h4 (fun j c hc=>ih j c hc (pure_flat hp c (List.mem_of_getElem? hc))) h6
 | ms g n b cap hb=>exact .ms g n b cap hb
 | rp g n off b cap hb=>exact .rp g n off b cap hb
 | nilslice=>exact .nilslice
 | eslice a=>exact .eslice a
 | agg cs vs h1 _ h3 ih =>
  simp only [PV.pure] at hp
  exact .agg cs vs h1 (fun j c hc=>ih j c hc (pureL_mem hp c (List.mem_of_getElem? hc))) h3
 | tup cs vs h1 _ ih =>
  simp only [PV.pure] at hp
  exact .tup cs vs h1 (fun j c hc=>ih j c hc (pureL_mem hp c (List.mem_of_getElem? hc)))
 | fn f a b fs cs h1 h2 _ _ ih1 ih2 =>
  simp only [PV.pure,Bool.and_eq_true] at hp
  exact .fn f a b fs cs h1 h2 (fun j c hc=>ih1 j c hc (pureL_mem hp.1 c (List.mem_of_getElem? hc))) (fun j c hc=>ih2 j c hc (pureL_mem hp.2 c (List.mem_of_getElem? hc)))
 | nilfn=>exact .nilfn
 | atom j v=>cases hp
structure NuOk (nu:Nat→PV):Prop where
 clean:∀ j,(nu j).clean=true
 pure:∀ j,(nu j).pure=true
 flat:∀ j,Nat.ble 1000 j=true→(nu j).flatA=true
section
variable {X:Map}
theorem R.sub0 {p:PV} {v:Value} (h:R X p v):R X (sub0 X.nu p) v:=by
 cases h with
 | atom j v h1 h2 h3=>exact h3
 | any v=>exact .any v
 | undef=>exact .undef
 | bool b=>exact .bool b
 | int k n=>exact .int k n
 | str s=>exact .str s
 | nilptr=>exact .nilptr
 | box id off b hb=>exact .box id off b hb
 | ref cs b o u h1 h2 h3=>exact .ref cs b o u h1 h2 h3
 | slice sz xs b o cap u h1 h2 h3 h4 h5 h6=>exact .slice sz xs b o cap u h1 h2 h3 h4 h5 h6
 | ms g n b cap hb=>exact .ms g n b cap hb
 | rp g n off b cap hb=>exact .rp g n off b cap hb
 | nilslice=>exact .nilslice
 | eslice a=>exact .eslice a
 | agg cs vs h1 h2 h3=>exact .agg cs vs h1 h2 h3
 | tup cs vs h1 h2=>exact .tup cs vs h1 h2
 | fn f a b fs cs h1 h2 h3 h4=>exact .fn f a b fs cs h1 h2 h3 h4
 | nilfn=>exact .nilfn
theorem R.sub1 {p:PV} {v:Value} (h:R X p v):R X (sub1 X.nu p) v:=by
 by_cases hp:∃ cs,p = .agg cs
 ·obtain ⟨cs,rfl⟩:=hp
  cases h with
  | agg _ vs h1 h2 h3 =>
   refine .agg _ vs (by simpa using h1) (fun j c hc=>?_) h3
   obtain ⟨a,ha,rfl⟩:=map_get hc
   exact (h2 j a ha).sub0
 ·have:Den.sub1 X.nu p=Den.sub0 X.nu p:=by cases p<;>first|rfl|(exact absurd ⟨_,rfl⟩ hp)
  rw [this];exact h.sub0
theorem R.sub2 {p:PV} {v:Value} (h:R X p v):R X (sub2 X.nu p) v:=by
 by_cases hp:∃ cs,p = .tup cs
 ·obtain ⟨cs,rfl⟩:=hp
  cases h with
  | tup _ vs h1 h2 =>
   refine .tup _ vs (by simpa using h1) (fun j c hc=>?_)
   obtain ⟨a,ha,rfl⟩:=map_get hc
   exact (h2 j a ha).sub1
 ·have:Den.sub2 X.nu p=Den.sub1 X.nu p:=by cases p<;>first|rfl|(exact absurd ⟨_,rfl⟩ hp)
  rw [this];exact h.sub1
theorem R.unsub0 (hn:NuOk X.nu) {p:PV} {v:Value} (h:R X (Den.sub0 X.nu p) v) (hv:v.oneCell'=true):R X p v:=by
 cases p with
 | atom j=>exact .atom j v ⟨hn.clean j,hn.flat j⟩ hv h
 | _=>exact h
theorem R.unsub1 (hn:NuOk X.nu) {p:PV} {v:Value} (h:R X (Den.sub1 X.nu p) v) (hv:(∀ cs,p≠.agg cs)→(∃ j,p = .atom j)→v.oneCell'=true):R X p v:=by
 cases p with
 | agg cs =>
  cases h with
  | agg _ vs h1 h2 h3 =>
   refine .agg cs vs (by simpa using h1) (fun j c hc=>?_) h3
   have hj:=lt_of_get hc
   exact (h2 j (Den.sub0 X.nu c) (by simp [hc])).unsub0 hn (h3 _ (Array.mem_of_getElem? (some_getD (by simp at h1;omega))))
 | atom j=>exact R.atom j v ⟨hn.clean j,hn.flat j⟩ (hv (fun _ h=>by cases h) ⟨j,rfl⟩) h
 | _=>exact h
end
def PV.one:PV→Bool
 | .bool _ | .int _ _ | .str _ | .nilptr | .box _ _ | .ref _ | .slice _ _ | .nilslice | .eslice | .fn _ _ _ | .nilfn=>true
 | _=>false
theorem R.oneOf {X:Map} {p:PV} {v:Value} (h:R X p v) (hp:p.one=true):v.oneCell'=true:=by
 cases h<;>first|rfl|(cases hp)
def Ev (P:Program) (g:FuncId) (args:List PV) (r:PV):Prop :=
 (∃ fn,P.funcs[g]? = some fn∧(fn.name == "runtime.NumGoroutine")=false∧fn.body.isSome=true) ∧
 ∀ X w (vs:Array Value),vs.size=args.length→(∀ (j:Nat) p,args[j]? = some p→R X p (vs.getD j Go.undef))→X.Ok w →
  Calls P g vs w fun e w'=>∃ v X',e = .returned v∧R X' r v∧Post X X' w w' (fun _=>none) (fun _=>none) (fun _=>False)
def PV.shut:PV→Bool
 | .agg cs=>cs.all PV.clean
 | p=>p.clean
def PV.shut2:PV→Bool
 | .tup vs=>vs.all PV.shut
 | p=>p.shut
theorem R.shut {X Y:Map} (hn:X.nu=Y.nu) (h:∀ b o v,X.M b o=some v→Y.M b o=some v) {p:PV} {v:Value} (hr:R X p v) (hc:p.shut=true):R Y p v:=by
 by_cases hp:∃ cs,p = .agg cs
 ·obtain ⟨cs,rfl⟩:=hp
  cases hr with
  | agg _ vs h1 h2 h3=>exact .agg cs vs h1 (fun j c hj=>(h2 j c hj).clean hn h (List.all_eq_true.1 hc c (List.mem_of_getElem? hj))) h3
 ·have:p.clean=true:=by cases p<;>first|exact hc|(exact absurd ⟨_,rfl⟩ hp)
  exact hr.clean hn h this
theorem R.shut2 {X Y:Map} (hn:X.nu=Y.nu) (h:∀ b o v,X.M b o=some v→Y.M b o=some v) {p:PV} {v:Value} (hr:R X p v) (hc:p.shut2=true):R Y p v:=by
 by_cases hp:∃ cs,p = .tup cs
 ·obtain ⟨cs,rfl⟩:=hp
  cases hr with
  | tup _ vs h1 h2=>exact .tup cs vs h1 (fun j c hj=>(h2 j c hj).shut hn h (List.all_eq_true.1 hc c (List.mem_of_getElem? hj)))
 ·have:p.shut=true:=by cases p<;>first|exact hc|(exact absurd ⟨_,rfl⟩ hp)
  exact hr.shut hn h this
theorem Ev.of {P:Program} (hP:progOk P=true) {nu:Nat→PV} (hn:NuOk nu) {O:Orc} (hO:OrcOk P nu O) {k:Nat} {g:FuncId} {args:List PV} {r:PV} (h:callF P O k g args []=some (r,[]))
  (hargs:∀ p∈args,(sub1 nu p).pure=true∧p.shut=true∧∀ i,p = .atom i→(nu i).one=true) (hr:(sub2 nu r).pure=true) (hr2:(sub2 nu r).shut2=true):Ev P g (args.map (sub1 nu)) (sub2 nu r):=by
 obtain ⟨_,hfn,hcall⟩:=callF_sound hP hO k _ _ _ _ _ h
 refine ⟨hfn,fun X w vs h1 h2 h3=>?_⟩
 let Z:Map:={ M:=X.M,mb:=fun _=>none,mt:=fun _ _=>none,nu:=nu }
 have hm:∀ (j:Nat) p,args[j]? = some p→R Z p (vs.getD j Go.undef):=fun j p hp=>by
  obtain ⟨q1,q2,q3⟩:=hargs p (List.mem_of_getElem? hp)
  have:=(h2 j (sub1 nu p) (by simp [hp])).setNu nu q1
  refine (R.unsub1 (X:=X.setNu nu) hn this (fun _ hj=>?_)).shut (X:=X.setNu nu) (Y:=Z) rfl (fun _ _ _ h=>h) q2
  obtain ⟨i,rfl⟩:=hj
  exact R.oneOf this (q3 i rfl)
 have hinv:Inv Z w (fun i=>([]:List Res)[i]?):=⟨h3,fun id=>⟨rfl,fun _=>rfl⟩,fun i j b hi=>hi.elim⟩
 refine (hcall Z w vs rfl (by simpa using h1) hm hinv).mono ?_
 rintro e w' ⟨v,X',he,hv,hp⟩
 have hnu:X'.nu=nu:=hp.le.nu.symm
 let Y:Map:={ M:=X'.M,mb:=X.mb,mt:=X.mt,nu:=X.nu }
 have hv':R X' (sub2 nu r) v:=by rw [← hnu];exact hv.sub2
 refine ⟨v,Y,he,(hv'.setNu X.nu hr).shut2 (X:=X'.setNu X.nu) (Y:=Y) rfl (fun _ _ _ h=>h) hr2,⟨⟨hp.le.M,fun _ _ h=>h,fun _ _ _ h=>h,rfl⟩,hp.ok,hp.grow,hp.os,hp.tape,hp.output,fun k hk _=>hp.keep k hk (fun id _ ho=>ho),fun b o u hu=>?_,fun _ _=>⟨rfl,rfl⟩,fun _ hw=>hw.elim,fun _ _ hw=>hw.elim,fun _ _ _ hw=>hw.elim⟩⟩
 rcases hp.fresh b o u hu with h'|⟨_,_,ho⟩|h'
 ·exact .inl h'
 ·exact ho.elim
 ·exact .inr (.inr h')
def EvRow (P:Program) (g:FuncId) (args:List PV) (e:TypeId) (sz n:Nat) (cs:List PV):Prop :=
 (∃ fn,P.funcs[g]? = some fn∧(fn.name == "runtime.NumGoroutine")=false∧fn.body.isSome=true) ∧
 ∀ X w (vs:Array Value),vs.size=args.length→(∀ (j:Nat) p,args[j]? = some p→R X p (vs.getD j Go.undef))→X.Ok w →
  Calls P g vs w fun ex w'=>∃ v,ex = .returned v∧RowPost X w w' v e sz n cs
theorem EvRow.of {P:Program} (hP:progOk P=true) {nu:Nat→PV} (hn:NuOk nu) {O:Orc} (hO:OrcOk P nu O) {k k':Nat} {g:FuncId} {args:List PV} {i n:Nat} {s':List Res} {e:TypeId} {sz:Nat} {cs:List PV}
  (h:callB P O (callF P O k) k' g args []=some (.ms i n,s')) (hrow:s'[i]? = some (.row e sz n cs))
  (hargs:∀ p∈args,(sub1 nu p).pure=true∧p.shut=true∧∀ i,p = .atom i→(nu i).one=true) (hcs:∀ c∈cs,(sub0 nu c).pure=true∧(sub0 nu c).clean=true):EvRow P g (args.map (sub1 nu)) e sz n (cs.map (sub0 nu)):=by
 obtain ⟨_,hfn,hcall⟩:=callB_sound hP hO (callF_sound hP hO k) k' h
 refine ⟨hfn,fun X w vs h1 h2 h3=>?_⟩
 let Z:Map:={ M:=X.M,mb:=fun _=>none,mt:=fun _ _=>none,nu:=nu }
 have hm:∀ (j:Nat) p,args[j]? = some p→R Z p (vs.getD j Go.undef):=fun j p hp=>by
  obtain ⟨q1,q2,q3⟩:=hargs p (List.mem_of_getElem? hp)
  have:=(h2 j (sub1 nu p) (by simp [hp])).setNu nu q1
  refine (R.unsub1 (X:=X.setNu nu) hn this (fun _ hj=>?_)).shut (X:=X.setNu nu) (Y:=Z) rfl (fun _ _ _ h=>h) q2
  obtain ⟨i,rfl⟩:=hj
  exact R.oneOf this (q3 i rfl)
 have hinv:Inv Z w (fun i=>([]:List Res)[i]?):=⟨h3,fun id=>⟨rfl,fun _=>rfl⟩,fun i j b hi=>hi.elim⟩
 refine (hcall Z w vs rfl (by simpa using h1) hm hinv).mono ?_
 rintro ex w' ⟨v,X',he,hv,hp⟩
 have hnu:X'.nu=nu:=hp.le.nu.symm
 let Y:Map:={ M:=X'.M,mb:=X.mb,mt:=X.mt,nu:=X.nu }
 have hr:=hp.res i trivial
 rw [hrow] at hr
 obtain ⟨b,cap,us,a1,a2,a3,a4,a5,a6,a7,a8,a9,b1,b2,b3⟩:=hr
 cases hv with
 | ms _ _ b' cap' hb =>
  rw [a1] at hb
  cases hb
  have hfresh:w.heap.size≤b:=by
   rcases hp.own i b trivial (by show Owns X' i b s'[i]?;rw [hrow];exact ⟨cap,a1⟩) with ho|ho
   ·exact ho.elim
   ·exact ho
  refine ⟨_,he,Y,b,cap,us,rfl,hfresh,a2,a3,a4,a5,a6,a9,by simpa using b1,fun j c hc=>?_,b3,⟨⟨hp.le.M,fun _ _ h=>h,fun _ _ _ h=>h,rfl⟩,hp.ok,hp.grow,hp.os,hp.tape,hp.output,fun k hk _=>hp.keep k hk (fun id _ ho=>ho),fun b o u hu=>?_,fun _ _=>⟨rfl,rfl⟩,fun _ hw=>hw.elim,fun _ _ hw=>hw.elim,fun _ _ _ hw=>hw.elim⟩⟩
  ·obtain ⟨q,hq,rfl⟩:=map_get hc
   obtain ⟨c1,c2⟩:=hcs q (List.mem_of_getElem? hq)
   have h0:=(b2 j q hq).sub0
   rw [hnu] at h0
   exact (h0.setNu X.nu c1).clean (X:=X'.setNu X.nu) (Y:=Y) rfl (fun _ _ _ h=>h) c2
  ·rcases hp.fresh b o u hu with h'|⟨_,_,ho⟩|h'
   ·exact .inl h'
   ·exact ho.elim
   ·exact .inr (.inr h')
mutual
def PV.same:PV→PV→Bool
 | .atom i, .atom j=>Nat.beq i j
 | .int k a, .int k' b=>decide (k=k')&&a==b
 | .bool a, .bool b=>a==b
 | .str a, .str b=>a==b
 | .nilslice, .nilslice=>true
 | .eslice, .eslice=>true
 | .undef, .undef=>true
 | .nilptr, .nilptr=>true
 | .nilfn, .nilfn=>true
 | .box i o, .box j p=>Nat.beq i j&&Nat.beq o p
 | .ms i o, .ms j p=>Nat.beq i j&&Nat.beq o p
 | .fn f a b, .fn g c d=>Nat.beq f g&&(PV.sameL a c&&PV.sameL b d)
 | .agg a, .agg b=>PV.sameL a b
 | .tup a, .tup b=>PV.sameL a b
 | .slice s a, .slice t b=>Nat.beq s t&&PV.sameL a b
 | _,_=>false
def PV.sameL:List PV→List PV→Bool
 | [],[]=>true
 | a::l,b::m=>PV.same a b&&PV.sameL l m
 | _,_=>false
end
mutual
theorem same_eq:∀ (a b:PV),PV.same a b=true→a=b
 | .atom i,b,h=>by cases b<;>simp [PV.same] at h;rw [h]
 | .int k a,b,h=>by
  cases b with
  | int k' b=>simp [PV.same] at h;rw [h.1,h.2]
  | _=>simp [PV.same] at h
 | .bool a,b,h=>by cases b<;>simp [PV.same] at h;rw [h]
 | .str a,b,h=>by cases b<;>simp [PV.same] at h;rw [h]
 | .nilslice,b,h=>by cases b<;>simp [PV.same] at h;rfl
 | .eslice,b,h=>by cases b<;>simp [PV.same] at h;rfl
 | .agg a,b,h=>by
  cases b with
  | agg b=>simp only [PV.same] at h;rw [sameL_eq a b h]
  | _=>simp [PV.same] at h
 | .slice s a,b,h=>by
  cases b with
  | slice t b =>
   simp [PV.same] at h
   rw [h.1,sameL_eq a b h.2]
  | _=>simp [PV.same] at h
 | .ms _ _,b,h=>by cases b<;>simp [PV.same] at h;rw [h.1,h.2]
 | .rp _ _ _,b,h=>by cases b<;>simp [PV.same] at h
 | .any,b,h=>by cases b<;>simp [PV.same] at h
 | .undef,b,h=>by cases b<;>simp [PV.same] at h;rfl
 | .nilptr,b,h=>by cases b<;>simp [PV.same] at h;rfl
 | .box _ _,b,h=>by cases b<;>simp [PV.same] at h;rw [h.1,h.2]
 | .ref _,b,h=>by cases b<;>simp [PV.same] at h
 | .tup a,b,h=>by
  cases b with
  | tup b=>simp only [PV.same] at h;rw [sameL_eq a b h]
  | _=>simp [PV.same] at h
 | .fn f a b,q,h=>by
  cases q with
  | fn g c d =>
   simp [PV.same] at h
   rw [h.1,sameL_eq a c h.2.1,sameL_eq b d h.2.2]
  | _=>simp [PV.same] at h
 | .nilfn,b,h=>by cases b<;>simp [PV.same] at h;rfl
theorem sameL_eq:∀ (a b:List PV),PV.sameL a b=true→a=b
 | [],b,h=>by cases b<;>simp [PV.sameL] at h;rfl
 | x::l,b,h=>by
  cases b with
  | nil=>simp [PV.sameL] at h
  | cons y m =>
   simp only [PV.sameL,Bool.and_eq_true] at h
   rw [same_eq x y h.1,sameL_eq l m h.2]
end
structure Tab where
 prims:List (FuncId × List PV × PV):=[]
 bins:List (BinOp × PV × PV × PV):=[]
 own:TypeId→Nat→Bool:=fun _ _=>false
 eqs:List (BinOp × TypeId × PV × PV × PV):=[]
 rows:List (FuncId × List PV × TypeId × Nat × Nat × List PV):=[]
 lens:List (TypeId × PV × PV):=[]
 ixs:List (TypeId × PV × Int × PV):=[]
def findL:List (TypeId × PV × PV)→TypeId→PV→Option PV
 | [],_,_=>none
 | (k,a,r)::t,ty,x=>match Nat.beq k ty&&PV.same a x with|true=>some r|false=>findL t ty x
def findX:List (TypeId × PV × Int × PV)→TypeId→PV→Int→Option PV
 | [],_,_,_=>none
 | (k,a,j,r)::t,ty,x,i=>match Nat.beq k ty&&(PV.same a x&&j==i) with|true=>some (.ref [r])|false=>findX t ty x i
theorem findL_mem:∀ (t:List (TypeId × PV × PV)) (ty:TypeId) (x r:PV),findL t ty x=some r→(ty,x,r)∈t
 | [],_,_,_,h=>by cases h
 | (k,a,r')::t,ty,x,r,h=>by
  unfold findL at h
  split at h
  ·rename_i hc
   simp only [Bool.and_eq_true,Nat.beq_eq] at hc
   cases h
   rw [hc.1,same_eq _ _ hc.2];simp
  ·exact List.mem_cons_of_mem _ (findL_mem t ty x r h)
theorem findX_mem:∀ (t:List (TypeId × PV × Int × PV)) (ty:TypeId) (x:PV) (i:Int) (r:PV),findX t ty x i=some r→∃ c,r = .ref [c]∧(ty,x,i,c)∈t
 | [],_,_,_,_,h=>by cases h
 | (k,a,j,c)::t,ty,x,i,r,h=>by
  unfold findX at h
  split at h
  ·rename_i hc
   simp only [Bool.and_eq_true,beq_iff_eq,Nat.beq_eq] at hc
   cases h
   refine ⟨c,rfl,?_⟩
   rw [hc.1,hc.2.2,same_eq _ _ hc.2.1];simp
  ·obtain ⟨c',h1,h2⟩:=findX_mem t ty x i r h
   exact ⟨c',h1,List.mem_cons_of_mem _ h2⟩
def findR:List (FuncId × List PV × TypeId × Nat × Nat × List PV)→FuncId→List PV→Option (TypeId × Nat × Nat × List PV)
 | [],_,_=>none
 | (g,l,r)::t,f,args=>match Nat.beq g f&&PV.sameL l args with|true=>some r|false=>findR t f args
def findP:List (FuncId × List PV × PV)→FuncId→List PV→Option PV
 | [],_,_=>none
 | (g,l,r)::t,f,args=>match Nat.beq g f&&PV.sameL l args with|true=>some r|false=>findP t f args
def findB:List (BinOp × PV × PV × PV)→BinOp→PV→PV→Option PV
 | [],_,_,_=>none
 | (o,a,b,r)::t,op,x,y=>match (o==op)&&(PV.same a x&&PV.same b y) with|true=>some r|false=>findB t op x y
def findE:List (BinOp × TypeId × PV × PV × PV)→BinOp→TypeId→PV→PV→Option PV
 | [],_,_,_,_=>none
 | (o,k,a,b,r)::t,op,ty,x,y=>match (o==op)&&(Nat.beq k ty&&(PV.same a x&&PV.same b y)) with|true=>some r|false=>findE t op ty x y
def Tab.orc (t:Tab):Orc where
 prim:=findP t.prims
 op:=fun o l=>match o,l with
  | .binOp op ty _ _ _,[x,y]=>match findB t.bins op x y with|some r=>some r|none=>findE t.eqs op ty x y
  | .indexAddr ty _ _,[x, .int .i64 i]=>findX t.ixs ty x i
  | .call c,l=>match c.callee,c.args.toList,c.argTypes[0]?,l with | .builtin .len,[_],some ty,[x]=>findL t.lens ty x|_,_,_,_=>none
  | _,_=>none
 own:=t.own
 row:=findR t.rows
theorem findR_mem:∀ (t:List (FuncId × List PV × TypeId × Nat × Nat × List PV)) (f:FuncId) (args:List PV) (r:TypeId × Nat × Nat × List PV),findR t f args=some r→(f,args,r)∈t
 | [],_,_,_,h=>by cases h
 | (g,l,r')::t,f,args,r,h=>by
  unfold findR at h
  split at h
  ·rename_i hc
   simp only [Bool.and_eq_true,Nat.beq_eq] at hc
   cases h
   rw [hc.1,sameL_eq _ _ hc.2];simp
  ·exact List.mem_cons_of_mem _ (findR_mem t f args r h)
theorem findP_mem:∀ (t:List (FuncId × List PV × PV)) (f:FuncId) (args:List PV) (r:PV),findP t f args=some r→(f,args,r)∈t
 | [],_,_,_,h=>by cases h
 | (g,l,r')::t,f,args,r,h=>by
  unfold findP at h
  split at h
  ·rename_i hc
   simp only [Bool.and_eq_true,Nat.beq_eq] at hc
   cases h
   rw [hc.1,sameL_eq _ _ hc.2];simp
  ·exact List.mem_cons_of_mem _ (findP_mem t f args r h)
theorem findB_mem:∀ (t:List (BinOp × PV × PV × PV)) (op:BinOp) (x y r:PV),findB t op x y=some r→(op,x,y,r)∈t
 | [],_,_,_,_,h=>by cases h
 | (o,a,b,r')::t,op,x,y,r,h=>by
  unfold findB at h
  split at h
  ·rename_i hc
   simp only [Bool.and_eq_true,beq_iff_eq] at hc
   cases h
   rw [hc.1,same_eq _ _ hc.2.1,same_eq _ _ hc.2.2];simp
  ·exact List.mem_cons_of_mem _ (findB_mem t op x y r h)
theorem findE_mem:∀ (t:List (BinOp × TypeId × PV × PV × PV)) (op:BinOp) (ty:TypeId) (x y r:PV),findE t op ty x y=some r→(op,ty,x,y,r)∈t
 | [],_,_,_,_,_,h=>by cases h
 | (o,k,a,b,r')::t,op,ty,x,y,r,h=>by
  unfold findE at h
  split at h
  ·rename_i hc
   simp only [Bool.and_eq_true,beq_iff_eq,Nat.beq_eq] at hc
   cases h
   rw [hc.1,hc.2.1,same_eq _ _ hc.2.2.1,same_eq _ _ hc.2.2.2];simp
  ·exact List.mem_cons_of_mem _ (findE_mem t op ty x y r h)
def BinOk (nu:Nat→PV) (op:BinOp) (x y r:PV):Prop :=
 (∃ k a b,op≠.shl∧op≠.shr∧sub0 nu x = .int k a∧sub0 nu y = .int k b∧intP op k a b=some (sub0 nu r)) ∨
 (∃ a b,sub0 nu x = .str a∧sub0 nu y = .str b∧strP op a b=some (sub0 nu r))
structure TabOk (P:Program) (nu:Nat→PV) (t:Tab):Prop where
 prims:∀ g args r,(g,args,r)∈t.prims→Ev P g (args.map (sub1 nu)) (sub2 nu r)∧(∀ p∈args,(sub1 nu p).pure=true)∧(sub2 nu r).pure=true∧r.shut2=true∧(∀ j,r = .atom j→(nu j).one=true)∧(∀ vs,r = .tup vs→∀ j,PV.atom j∈vs→(nu j).one=true)
 bins:∀ op x y r,(op,x,y,r)∈t.bins→BinOk nu op x y r
 eqs:∀ op ty x y r,(op,ty,x,y,r)∈t.eqs→binP P op ty (sub1 nu x) (sub1 nu y)=some (sub0 nu r)∧(sub0 nu r).one=true
 rows:∀ g args e sz n cs,(g,args,e,sz,n,cs)∈t.rows→EvRow P g (args.map (sub1 nu)) e sz n (cs.map (sub0 nu)):=by intro _ _ _ _ _ _ h;simp at h
 lens:∀ ty x r,(ty,x,r)∈t.lens→lenP P ty (sub0 nu x)=some (sub0 nu r)∧(sub0 nu r).one=true:=by intro _ _ _ h;simp at h
 ixs:∀ ty x i c,(ty,x,i,c)∈t.ixs→indexAddrP P ty (sub0 nu x) (.int .i64 i)=some (.ref [sub0 nu c])∧(sub0 nu c).one=true∧c.clean=true:=by intro _ _ _ _ h;simp at h
theorem R.unsub2 {X:Map} (hn:NuOk X.nu) {p:PV} {v:Value} (h:R X (Den.sub2 X.nu p) v) (h1:∀ j,p = .atom j→(X.nu j).one=true) (h2:∀ vs,p = .tup vs→∀ j,PV.atom j∈vs→(X.nu j).one=true):R X p v:=by
 by_cases hp:∃ cs,p = .tup cs
 ·obtain ⟨cs,rfl⟩:=hp
  cases h with
  | tup _ vs a1 a2 =>
   refine .tup cs vs (by simpa using a1) (fun j c hc=>?_)
   have:=a2 j (Den.sub1 X.nu c) (by simp [hc])
   refine R.unsub1 hn this (fun _ hj=>?_)
   obtain ⟨i,rfl⟩:=hj
   exact R.oneOf this (h2 cs rfl i (List.mem_of_getElem? hc))
 ·have e:Den.sub2 X.nu p=Den.sub1 X.nu p:=by cases p<;>first|rfl|(exact absurd ⟨_,rfl⟩ hp)
  rw [e] at h
  refine R.unsub1 hn h (fun _ hj=>?_)
  obtain ⟨i,rfl⟩:=hj
  exact R.oneOf h (h1 i rfl)
theorem TabOk.orc {P:Program} {nu:Nat→PV} (hn:NuOk nu) {t:Tab} (h:TabOk P nu t):OrcOk P nu t.orc:=by
 refine ⟨⟨fun o l p ho X w ρ oper hX hok hop hR=>?_,fun g args r ho=>?_,fun g args e sz n cs ho=>?_,fun _ _ _ _ _ h=>by cases h⟩,fun _ _ _ _ _ _ _ _ _ _ _ _ _ h=>(by cases h),fun _ _ _ _ _ h=>(by cases h)⟩
 rotate_left 2
 ·obtain ⟨hfn,hcall⟩:=h.rows _ _ _ _ _ _ (findR_mem _ _ _ _ ho)
  refine ⟨hfn,fun X w vs hX h1 h2 h3=>?_⟩
  refine (hcall X w vs (by simpa using h1) (fun j p hp=>?_) h3).mono ?_
  ·obtain ⟨q,hq,rfl⟩:=map_get hp
   have:=(h2 j q hq).sub1
   rw [hX] at this
   exact this
  ·rintro ex w' ⟨v,he,X',b,cap,us,a1,a2,a3,a4,a5,a6,a7,a8,a9,b1,b2,hp⟩
   have hnu:X'.nu=nu:=hp.le.nu.symm.trans hX
   refine ⟨v,he,X',b,cap,us,a1,a2,a3,a4,a5,a6,a7,a8,by simpa using a9,fun j c hc=>?_,b2,hp⟩
   have hr:=b1 j (sub0 nu c) (by simp [hc])
   have hj:j < us.size:=by
    have hl:j < cs.length:=lt_of_get hc
    have h9:cs.length=n*sz:=by simpa using a9
    have:n*sz≤cap*sz:=Nat.mul_le_mul_right _ a3
    omega
   exact R.unsub0 (by rw [hnu];exact hn) (by rw [hnu];exact hr) (b2 _ (Array.mem_of_getElem? (some_getD hj)))
 ·simp only [Tab.orc] at ho
  split at ho
  ·rename_i op tx a b ty x y
   have ho':findB t.bins op x y=some p∨findE t.eqs op tx x y=some p:=by
    split at ho
    ·rename_i hb;cases ho;exact .inl hb
    ·exact .inr ho
   rcases ho' with ho|ho
   rotate_left
   ·obtain ⟨he,h1⟩:=h.eqs _ _ _ _ _ (findE_mem _ _ _ _ _ _ ho)
    have hx:=(hR 0 a x (by simp [Op.operands]) rfl).sub1
    have hy:=(hR 1 b y (by simp [Op.operands]) rfl).sub1
    rw [hX] at hx hy
    obtain ⟨v,hv,hRv⟩:=gives_bin (P:=P) (X:=X) (w:=w) (x:=a) (y:=b) he hx hy
    refine ⟨v,?_,?_⟩
    ·unfold execOp
     rw [hop]
     simp only [Sem.run_bind] at hv ⊢
     rw [hv];rfl
    ·rw [← hX] at hRv
     exact R.unsub0 (by rw [hX];exact hn) hRv (hRv.oneOf (by rw [hX];exact h1))
   have hm:=findB_mem _ _ _ _ _ ho
   have hx:=hR 0 a x (by simp [Op.operands]) rfl
   have hy:=hR 1 b y (by simp [Op.operands]) rfl
   have hx':=hx.sub0
   have hy':=hy.sub0
   rw [hX] at hx' hy'
   have hex:∀ v,(binOp op tx (ρ a) (ρ b)).run P w = .ok v w→(¬ (op = .eql∨op = .neq)∨((∀ cs cs',ρ a = .agg cs→ρ b = .agg cs'→P.eqGuardType P.depth tx=false)∧ρ a≠.nilIface))→(execOp ρ oper).run P w = .ok (.value v) w:=fun v hv hg=>by
    unfold execOp
    rw [hop]
    simp only [Sem.run_bind,eqGuard_run (P:=P) (w:=w) (op:=op) (t:=tx) (x:=a) (y:=b) (va:=ρ a) (vb:=ρ b) (fun he=>by rcases hg with hg|hg;exact absurd he hg;exact hg),Result.andThen_ok,hv,Sem.run_pure]
   have fin:∀ v,R X (sub0 nu p) v→v.oneCell'=true→R X p v:=fun v hv h1=>by
    rw [← hX] at hv
    exact R.unsub0 (by rw [hX];exact hn) hv h1
   rcases h.bins _ _ _ _ hm with ⟨k,m,n,hs,hr,e1,e2,e3⟩|⟨m,n,e1,e2,e3⟩
   ·rw [e1] at hx'
    rw [e2] at hy'
    generalize hva:ρ a=va at hx' hex
    generalize hvb:ρ b=vb at hy' hex
    cases hx';cases hy'
    obtain ⟨v,h1,h2⟩:=gives_int (P:=P) (X:=X) (w:=w) (t:=tx) hs hr e3
    refine ⟨v,hex v h1 (.inr ⟨(fun _ _ hc=>by cases hc),(fun hc=>by cases hc)⟩),fin v h2 ?_⟩
    have:(sub0 nu p).one=true:=by
     unfold intP at e3
     split at e3<;>first
      | (split at e3<;>first|(cases e3;done)|(have:=Option.some.inj e3;rw [← this];rfl))
      | (have:=Option.some.inj e3;rw [← this];rfl)
      | (cases e3;done)
    exact h2.oneOf this
   ·rw [e1] at hx'
    rw [e2] at hy'
    generalize hva:ρ a=va at hx' hex
    generalize hvb:ρ b=vb at hy' hex
    cases hx';cases hy'
    obtain ⟨v,h1,h2⟩:=gives_str (P:=P) (X:=X) (w:=w) (t:=tx) e3
    refine ⟨v,hex v h1 (.inr ⟨(fun _ _ hc=>by cases hc),(fun hc=>by cases hc)⟩),fin v h2 ?_⟩
    have:(sub0 nu p).one=true:=by
     unfold strP at e3
     split at e3<;>first
      | (split at e3<;>first|(cases e3;done)|(have:=Option.some.inj e3;rw [← this];rfl))
      | (have:=Option.some.inj e3;rw [← this];rfl)
      | (cases e3;done)
    exact h2.oneOf this
  ·rename_i ty a b x i
   obtain ⟨c,rfl,hm⟩:=findX_mem _ _ _ _ _ ho
   obtain ⟨h1,h2,h3⟩:=h.ixs _ _ _ _ hm
   have hx:=(hR 0 a x (by simp [Op.operands]) rfl).sub0
   have hi:=hR 1 b (.int .i64 i) (by simp [Op.operands]) rfl
   rw [hX] at hx
   obtain ⟨v,hv,hRv⟩:=gives_indexAddr (P:=P) (X:=X) (w:=w) h1 hx hi
   refine ⟨v,?_,?_⟩
   ·unfold execOp
    rw [hop]
    simp only [Sem.run_bind] at hv ⊢
    rw [hv];rfl
   ·cases hRv with
    | ref _ b o u k1 k2 k3 =>
     refine .ref _ b o u (fun j c' hc'=>k1 j (Den.sub0 nu c) (by cases j with|zero=>rfl|succ j=>simp at hc')) (fun j c' hc'=>?_) (fun j c' hc'=>?_)
     rotate_left
     ·cases j with
      | zero=>simp at hc';subst hc';exact ⟨(k3 0 (Den.sub0 nu c) rfl).1,h3⟩
      | succ j=>simp at hc'
     cases j with
     | zero =>
      simp at hc';subst hc'
      have:=k2 0 (Den.sub0 nu c) rfl
      rw [← hX] at this
      exact R.unsub0 (by rw [hX];exact hn) this (this.oneOf (by rw [hX];exact h2))
     | succ j=>simp at hc'
  ·rename_i l c
   split at ho
   ·rename_i a ty x hc hl ht
    obtain ⟨h1,h2⟩:=h.lens _ _ _ (findL_mem _ _ _ _ ho)
    have hx:=(hR 0 a x (by simp [Op.operands,Call.operands,hc,hl]) rfl).sub0
    rw [hX] at hx
    have hargs:c.args.map ρ = #[ρ a]:=by rw [← Array.toArray_toList (xs:=c.args.map ρ),Array.toList_map,hl];rfl
    obtain ⟨v,hv,hRv⟩:=gives_len (P:=P) (X:=X) (w:=w) (ty:=oper.type) (ts:=c.argTypes) h1 hx ht
    refine ⟨v,?_,?_⟩
    ·have he:execOp ρ oper=(do pure (.value (← Builtin.len_ c.argTypes oper.type (c.args.map ρ)))):=by
      unfold execOp;rw [hop];simp only [resolve,hc];rfl
     rw [he,hargs]
     simp only [Sem.run_bind,hv,Result.andThen_ok,Sem.run_pure]
    ·rw [← hX] at hRv
     exact R.unsub0 (by rw [hX];exact hn) hRv (hRv.oneOf (by rw [hX];exact h2))
   ·cases ho
  ·cases ho
 ·have hm:=findP_mem _ _ _ _ ho
  obtain ⟨⟨hfn,hcall⟩,hpa,hpr,hsh,hone1,hone2⟩:=h.prims _ _ _ hm
  refine ⟨hfn,fun X w vs hX h1 h2 h3=>?_⟩
  refine (hcall X w vs (by simpa using h1) (fun j p hp=>?_) h3).mono ?_
  ·obtain ⟨q,hq,rfl⟩:=map_get hp
   have:=(h2 j q hq).sub1
   rw [hX] at this
   exact this
  ·rintro e w' ⟨v,X',he,hv,hp⟩
   have hnu:X'.nu=nu:=hp.le.nu.symm.trans hX
   refine ⟨v,X',he,?_,hp⟩
   refine R.unsub2 (by rw [hnu];exact hn) (by rw [hnu];exact hv) (fun j hj=>by rw [hnu];exact hone1 j hj) (fun us hus j hj=>by rw [hnu];exact hone2 us hus j hj)
theorem Ev.law {P:Program} {g:FuncId} {args:List PV} (h:Ev P g args (.bool true)) {X:Map} {w:World} (hok:X.Ok w) {vs:Array Value} (hl:vs.size=args.length) (hR:∀ (j:Nat) p,args[j]? = some p→R X p (vs.getD j Go.undef)) :
  Calls P g vs w fun e w'=>e = .returned (.bool true)∧Below w.heap.size w w':=by
 refine (h.2 X w vs hl hR hok).mono ?_
 rintro e w' ⟨v,X',rfl,hv,hp⟩
 cases hv
 exact ⟨rfl,hp.os,hp.tape,hp.output,hp.grow,fun k hk=>hp.keep k hk (fun _ hw _=>hw)⟩
theorem R_nil (X:Map):∀ (j:Nat) (p:PV),([]:List PV)[j]? = some p→R X p ((#[]:Array Value).getD j Go.undef):=fun j p h=>by simp at h
theorem R_cons {X:Map} {p:PV} {v:Value} {l:List PV} {vs:List Value} (h:R X p v) (hl:∀ (j:Nat) q,l[j]? = some q→R X q (vs.toArray.getD j Go.undef)):∀ (j:Nat) q,(p::l)[j]? = some q→R X q ((v::vs).toArray.getD j Go.undef):=fun j q hq=>by
 cases j with
 | zero=>simp at hq;subst hq;exact h
 | succ j =>
  have:=hl j q (by simpa using hq)
  have e:(v::vs).toArray.getD (j+1) Go.undef=vs.toArray.getD j Go.undef:=by simp [Array.getD_eq_getD_getElem?]
  rw [e];exact this
open Go Go.RowKit
mutual
def subD (nu:Nat→PV):PV→PV
 | .atom j=>nu j
 | .ref cs=>.ref (subDL nu cs)
 | .slice sz xs=>.slice sz (subDL nu xs)
 | .agg cs=>.agg (subDL nu cs)
 | .tup vs=>.tup (subDL nu vs)
 | .fn f a b=>.fn f (subDL nu a) (subDL nu b)
 | .any=>.any
 | .undef=>.undef
 | .bool b=>.bool b
 | .int k n=>.int k n
 | .str s=>.str s
 | .nilptr=>.nilptr
 | .box i o=>.box i o
 | .ms g n=>.ms g n
 | .rp g n o=>.rp g n o
 | .nilslice=>.nilslice
 | .eslice=>.eslice
 | .nilfn=>.nilfn
def subDL (nu:Nat→PV):List PV→List PV
 | []=>[]
 | v::r=>subD nu v::subDL nu r
end
theorem subDL_map (nu:Nat→PV):∀ l:List PV,subDL nu l=l.map (subD nu)
 | []=>rfl
 | v::r=>by simp only [subDL,List.map_cons,subDL_map nu r]
theorem subDL_get {nu:Nat→PV} {l:List PV} {j:Nat} {c:PV} (h:(subDL nu l)[j]? = some c):∃ a,l[j]? = some a∧c=subD nu a:=by
 rw [subDL_map] at h
 obtain ⟨a,ha,rfl⟩:=map_get h
 exact ⟨a,ha,rfl⟩
theorem subDL_len (nu:Nat→PV) (l:List PV):(subDL nu l).length=l.length:=by rw [subDL_map,List.length_map]
theorem subD_cellsD {nu:Nat→PV} (hn:∀ j,(nu j).clean=true) (x:PV):(subD nu x).cellsD=subDL nu x.cellsD:=by
 cases x with
 | atom j =>
  have h:=hn j
  show (nu j).cellsD=[nu j]
  cases hq:nu j with
  | agg cs=>rw [hq] at h;cases h
  | _=>rfl
 | agg cs=>rfl
 | _=>rfl
theorem subD_flat {nu:Nat→PV} (hn:∀ j,(nu j).clean=true):∀ xs:List PV,(subDL nu xs).flatMap PV.cellsD=subDL nu (xs.flatMap PV.cellsD)
 | []=>rfl
 | x::xs=>by
  simp only [subDL,List.flatMap_cons,subD_cellsD hn,subD_flat hn xs]
  rw [subDL_map,subDL_map,subDL_map,List.map_append]
theorem subD_clean {nu:Nat→PV} (hn:∀ j,(nu j).clean=true) {c:PV} (h:c.clean=true):(subD nu c).clean=true:=by
 cases c with
 | atom j=>exact hn j
 | fn f a b =>
  simp only [PV.clean,Bool.and_eq_true,List.isEmpty_iff] at h
  obtain ⟨rfl,rfl⟩:=h
  rfl
 | _=>first|exact h|rfl
theorem clean_of_subD {nu:Nat→PV} {c:PV} (h:(subD nu c).clean=true):c.clean=true:=by
 cases c with
 | atom j=>rfl
 | fn f a b =>
  simp only [subD,PV.clean,Bool.and_eq_true,List.isEmpty_iff] at h ⊢
  refine ⟨?_,?_⟩
  ·cases a with
   | nil=>rfl
   | cons x a=>simp [subDL] at h
  ·cases b with
   | nil=>rfl
   | cons x b=>simp [subDL] at h
 | _=>first|exact h|rfl
theorem R.subD {X:Map} (hn:∀ j,(X.nu j).clean=true) {p:PV} {v:Value} (h:R X p v):R X (subD X.nu p) v:=by
 induction h with
 | any v=>exact .any v
 | undef=>exact .undef
 | bool b=>exact .bool b
 | int k n=>exact .int k n
 | str s=>exact .str s
 | nilptr=>exact .nilptr
 | box id off b hb=>exact .box id off b hb
 | ref cs b o u h1 _ h3 ih =>
  refine .ref _ b o u (fun j c hc=>?_) (fun j c hc=>?_) (fun j c hc=>?_)<;>obtain ⟨a,ha,rfl⟩:=subDL_get hc
  ·exact h1 j a ha
  ·exact ih j a ha
  ·exact ⟨(h3 j a ha).1,subD_clean hn (h3 j a ha).2⟩
 | slice sz xs b o cap u h1 h2 h3 h4 _ h6 ih =>
  have hs:R X (.slice sz (subDL X.nu xs)) (.slice (some ⟨b,o,none⟩) (subDL X.nu xs).length cap):=by
   refine .slice sz _ b o cap u (fun x hx=>?_) h2 (by rw [subDL_len];exact h3) (fun j c hc=>?_) (fun j c hc=>?_) (fun j c hc=>?_)
   ·rw [subDL_map] at hx
    obtain ⟨y,hy,rfl⟩:=List.mem_map.1 hx
    rw [subD_cellsD hn,subDL_len]
    exact h1 y hy
   all_goals
    rw [subD_flat hn] at hc
    obtain ⟨a,ha,rfl⟩:=subDL_get hc
   ·exact h4 j a ha
   ·exact ih j a ha
   ·exact ⟨(h6 j a ha).1,subD_clean hn (h6 j a ha).2⟩
  rw [subDL_len] at hs
  exact hs
 | ms g n b cap hb=>exact .ms g n b cap hb
 | rp g n off b cap hb=>exact .rp g n off b cap hb
 | nilslice=>exact .nilslice
 | eslice a=>exact .eslice a
 | agg cs vs h1 _ h3 ih =>
  refine .agg _ vs (by rw [subDL_len];exact h1) (fun j c hc=>?_) h3
  obtain ⟨a,ha,rfl⟩:=subDL_get hc
  exact ih j a ha
 | tup cs vs h1 _ ih =>
  refine .tup _ vs (by rw [subDL_len];exact h1) (fun j c hc=>?_)
  obtain ⟨a,ha,rfl⟩:=subDL_get hc
  exact ih j a ha
 | fn f a b fs cs h1 h2 _ _ ih1 ih2 =>
  refine .fn f _ _ fs cs (by rw [subDL_len];exact h1) (by rw [subDL_len];exact h2) (fun j c hc=>?_) (fun j c hc=>?_)<;>obtain ⟨q,hq,rfl⟩:=subDL_get hc
  ·exact ih1 j q hq
  ·exact ih2 j q hq
 | nilfn=>exact .nilfn
 | atom j v h1 h2 h3 ih=>exact h3
mutual
def oneB (nu:Nat→PV):PV→Bool
 | .atom j=>(nu j).one
 | .tup vs=>oneBL nu vs
 | .fn _ a b=>oneBL nu a&&oneBL nu b
 | .agg cs=>fnB nu cs
 | _=>true
def oneBL (nu:Nat→PV):List PV→Bool
 | []=>true
 | v::r=>oneB nu v&&oneBL nu r
def fnB (nu:Nat→PV):List PV→Bool
 | []=>true
 | .fn f a b::r=>oneB nu (.fn f a b)&&fnB nu r
 | _::r=>fnB nu r
end
theorem oneBL_get {nu:Nat→PV}:∀ {l:List PV},oneBL nu l=true→∀ {j:Nat} {c:PV},l[j]? = some c→oneB nu c=true
 | [],_,j,c,h=>by simp at h
 | v::r,h,0,c,hc=>by
  simp only [oneBL,Bool.and_eq_true] at h
  simp at hc;subst hc;exact h.1
 | v::r,h,j+1,c,hc=>by
  simp only [oneBL,Bool.and_eq_true] at h
  exact oneBL_get h.2 (j:=j) (by simpa using hc)
mutual
def PV.depth:PV→Nat
 | .ref cs=>PV.depthL cs+1
 | .slice _ xs=>PV.depthL xs+1
 | .agg cs=>PV.depthL cs+1
 | .tup vs=>PV.depthL vs+1
 | .fn _ a b=>PV.depthL a+PV.depthL b+1
 | _=>0
def PV.depthL:List PV→Nat
 | []=>0
 | v::r=>PV.depth v+PV.depthL r
end
theorem depthL_mem:∀ {l:List PV} {c:PV},c∈l→c.depth≤PV.depthL l
 | [],c,h=>by simp at h
 | v::r,c,h=>by
  simp only [PV.depthL]
  rcases List.mem_cons.1 h with rfl|h
  ·omega
  ·have:=depthL_mem h;omega
theorem depth_cellsD {x c:PV} (h:c∈x.cellsD):c.depth≤x.depth:=by
 cases x with
 | agg cs=>have h':c∈cs:=h;have:=depthL_mem h';simp only [PV.depth];omega
 | _=>simp only [PV.cellsD,List.mem_singleton] at h;subst h;exact Nat.le_refl _
theorem depth_flat {xs:List PV} {c:PV} (h:c∈xs.flatMap PV.cellsD):c.depth≤PV.depthL xs:=by
 obtain ⟨x,hx,hc⟩:=List.mem_flatMap.1 h
 have:=depthL_mem hx
 have:=depth_cellsD hc
 omega
theorem R.unsubD {X:Map} (hn:NuOk X.nu):∀ (d:Nat) (p:PV) (v:Value),p.depth≤d→R X (Den.subD X.nu p) v→(oneB X.nu p=true∨(v.oneCell'=true∧(∀ f a b,p = .fn f a b→a=[]∧b=[])))→R X p v:=by
 intro d
 induction d with
 | zero =>
  intro p v hd h h1
  cases p with
  | atom j =>
   have hv:v.oneCell'=true:=by
    rcases h1 with h1|h1
    ·exact R.oneOf h h1
    ·exact h1.1
   exact .atom j v ⟨hn.clean j,hn.flat j⟩ hv h
  | ref cs=>simp [PV.depth] at hd
  | slice sz xs=>simp [PV.depth] at hd
  | agg cs=>simp [PV.depth] at hd
  | tup vs=>simp [PV.depth] at hd
  | fn f a b=>simp [PV.depth] at hd
  | _=>exact h
 | succ d ih =>
  intro p v hd h h1
  have clean_fn:∀ {c:PV},c.clean=true→∀ f a b,c = .fn f a b→a=[]∧b=[]:=fun {c} hc f a b e=>by
   subst e
   simp only [PV.clean,Bool.and_eq_true,List.isEmpty_iff] at hc
   exact hc
  cases p with
  | atom j =>
   have hv:v.oneCell'=true:=by
    rcases h1 with h1|h1
    ·exact R.oneOf h h1
    ·exact h1.1
   exact .atom j v ⟨hn.clean j,hn.flat j⟩ hv h
  | ref cs =>
   simp only [PV.depth] at hd
   have h':R X (.ref (subDL X.nu cs)) v:=h
   cases h' with
   | ref _ b o u k1 k2 k3 =>
    have get:∀ {j:Nat} {c:PV},cs[j]? = some c→(subDL X.nu cs)[j]? = some (Den.subD X.nu c):=fun hc=>by rw [subDL_map];simp [hc]
    have hcl:∀ {j:Nat} {c:PV},cs[j]? = some c→c.clean=true:=fun hc=>clean_of_subD (k3 _ _ (get hc)).2
    refine .ref cs b o u (fun j c hc=>k1 j _ (get hc)) (fun j c hc=>ih c _ ?_ (k2 j _ (get hc)) (.inr ⟨(k3 j _ (get hc)).1,clean_fn (hcl hc)⟩)) (fun j c hc=>⟨(k3 j _ (get hc)).1,hcl hc⟩)
    have:=depthL_mem (List.mem_of_getElem? hc)
    omega
  | slice sz xs =>
   simp only [PV.depth] at hd
   have h':R X (.slice sz (subDL X.nu xs)) v:=h
   have hl:=subDL_len X.nu xs
   generalize hys:subDL X.nu xs=ys at h' hl
   cases h' with
   | slice _ _ b o cap u k1 k2 k3 k4 k5 k6 =>
    subst hys
    rw [hl] at k3 ⊢
    rw [subD_flat hn.clean] at k4 k5 k6
    have get:∀ {j:Nat} {c:PV},(xs.flatMap PV.cellsD)[j]? = some c→(subDL X.nu (xs.flatMap PV.cellsD))[j]? = some (Den.subD X.nu c):=fun hc=>by rw [subDL_map];simp [hc]
    have hcl:∀ {j:Nat} {c:PV},(xs.flatMap PV.cellsD)[j]? = some c→c.clean=true:=fun hc=>clean_of_subD (k6 _ _ (get hc)).2
    refine .slice sz xs b o cap u (fun x hx=>?_) k2 k3 (fun j c hc=>k4 j _ (get hc)) (fun j c hc=>ih c _ ?_ (k5 j _ (get hc)) (.inr ⟨(k6 j _ (get hc)).1,clean_fn (hcl hc)⟩)) (fun j c hc=>⟨(k6 j _ (get hc)).1,hcl hc⟩)
    ·have:=k1 (Den.subD X.nu x) (by rw [subDL_map];exact List.mem_map_of_mem hx)
     rw [subD_cellsD hn.clean,subDL_len] at this
     exact this
    ·have:=depth_flat (List.mem_of_getElem? hc)
     omega
  | agg cs =>
   simp only [PV.depth] at hd
   have h':R X (.agg (subDL X.nu cs)) v:=h
   have hfn:fnB X.nu cs=true∨∀ f a b,PV.agg cs = .fn f a b→a=[]∧b=[]:=h1.imp id fun h=>h.2
   cases h' with
   | agg _ vs k1 k2 k3 =>
    rw [subDL_len] at k1
    have get:∀ {j:Nat} {c:PV},cs[j]? = some c→(subDL X.nu cs)[j]? = some (Den.subD X.nu c):=fun hc=>by rw [subDL_map];simp [hc]
    have hf:fnB X.nu cs=true:=by
     rcases h1 with h1|h1
     ·exact h1
     ·cases h1.1
    have hfg:∀ (cs:List PV),fnB X.nu cs=true→∀ {j:Nat} {f a b},cs[j]? = some (.fn f a b)→oneB X.nu (.fn f a b)=true:=by
     intro cs
     induction cs with
     | nil=>intro _ j f a b hc;simp at hc
     | cons c cs ihc =>
      intro hf j f a b hc
      cases j with
      | zero =>
       simp at hc
       subst hc
       simp only [fnB,Bool.and_eq_true] at hf
       exact hf.1
      | succ j =>
       refine ihc ?_ (j:=j) (by simpa using hc)
       cases c<;>first|exact hf|(simp only [fnB,Bool.and_eq_true] at hf;exact hf.2)
    refine .agg cs vs k1 (fun j c hc=>ih c _ ?_ (k2 j _ (get hc)) ?_) k3
    ·have:=depthL_mem (List.mem_of_getElem? hc)
     omega
    ·by_cases hp:∃ f a b,c = .fn f a b
     ·obtain ⟨f,a,b,rfl⟩:=hp
      exact .inl (hfg cs hf hc)
     ·exact .inr ⟨k3 _ (Array.mem_of_getElem? (some_getD (by have:=lt_of_get hc;omega))),fun f a b e=>absurd ⟨f,a,b,e⟩ hp⟩
  | tup vs =>
   simp only [PV.depth] at hd
   have h':R X (.tup (subDL X.nu vs)) v:=h
   cases h' with
   | tup _ us k1 k2 =>
    rw [subDL_len] at k1
    have hf:oneBL X.nu vs=true:=by
     rcases h1 with h1|h1
     ·exact h1
     ·cases h1.1
    refine .tup vs us k1 (fun j c hc=>ih c _ ?_ (k2 j (Den.subD X.nu c) (by rw [subDL_map];simp [hc])) (.inl (oneBL_get hf hc)))
    have:=depthL_mem (List.mem_of_getElem? hc)
    omega
  | fn f a b =>
   simp only [PV.depth] at hd
   have h':R X (.fn f (subDL X.nu a) (subDL X.nu b)) v:=h
   cases h' with
   | fn _ _ _ fs cs k1 k2 k3 k4 =>
    rw [subDL_len] at k1 k2
    have hf:oneBL X.nu a=true∧oneBL X.nu b=true:=by
     rcases h1 with h1|h1
     ·simpa [oneB] using h1
     ·obtain ⟨rfl,rfl⟩:=h1.2 f a b rfl
      exact ⟨rfl,rfl⟩
    refine .fn f a b fs cs k1 k2 (fun j c hc=>ih c _ ?_ (k3 j (Den.subD X.nu c) (by rw [subDL_map];simp [hc])) (.inl (oneBL_get hf.1 hc))) (fun j c hc=>ih c _ ?_ (k4 j (Den.subD X.nu c) (by rw [subDL_map];simp [hc])) (.inl (oneBL_get hf.2 hc)))
    ·have:=depthL_mem (List.mem_of_getElem? hc)
     omega
    ·have:=depthL_mem (List.mem_of_getElem? hc)
     omega
  | _=>exact h
theorem R.unsubO {X:Map} (hn:NuOk X.nu) {p:PV} {v:Value} (h:R X (Den.subD X.nu p) v) (h1:oneB X.nu p=true):R X p v:=R.unsubD hn _ p v (Nat.le_refl _) h (.inl h1)
theorem R.unsubC {X:Map} (hn:NuOk X.nu) {p:PV} {v:Value} (h:R X (Den.subD X.nu p) v) (hv:v.oneCell'=true) (hf:fnB X.nu [p]=true):R X p v:=by
 by_cases hp:∃ f a b,p = .fn f a b
 ·obtain ⟨f,a,b,rfl⟩:=hp
  simp only [fnB,Bool.and_eq_true] at hf
  exact R.unsubO hn h hf.1
 ·exact R.unsubD hn _ p v (Nat.le_refl _) h (.inr ⟨hv,fun f a b e=>absurd ⟨f,a,b,e⟩ hp⟩)
def subRes (nu:Nat→PV):Res→Res
 | .box cs=>.box (cs.map (subD nu))
 | .row e sz n cs=>.row e sz n (cs.map (subD nu))
 | .dead=>.dead
def pureRes:Res→Bool
 | .box cs=>PV.pureL cs
 | .row _ _ _ cs=>PV.pureL cs
 | .dead=>true
section
variable {P:Program}
theorem sub_get (nu:Nat→PV) (s:List Res) (id:Nat):(s.map (subRes nu))[id]? = (s[id]?).map (subRes nu):=by rw [List.getElem?_map]
theorem owns_sub {X:Map} {nu:Nat→PV} {id b:Nat} {r:Option Res}:Owns X id b (r.map (subRes nu))↔Owns X id b r:=by
 cases r with
 | none=>exact Iff.rfl
 | some r=>cases r<;>exact Iff.rfl
def fnRes (nu:Nat→PV):Res→Bool
 | .box cs=>cs.all fun c=>fnB nu [c]
 | .row _ _ _ cs=>cs.all fun c=>fnB nu [c]
 | .dead=>true
theorem resOk_sub {X:Map} (hn:NuOk X.nu) {w:World} {id:Nat} {r:Option Res} (h:ResOk X w id r):ResOk X w id (r.map (subRes X.nu)):=by
 cases r with
 | none=>exact h
 | some r =>
  cases r with
  | dead=>trivial
  | box cs =>
   obtain ⟨b,vs,e,a1,a2,a3,a4,a5,a6,a7⟩:=h
   refine ⟨b,vs,e,a1,a2,by simpa using a3,a4,fun j c hc=>?_,a6,a7⟩
   obtain ⟨q,hq,rfl⟩:=map_get hc
   exact (a5 j q hq).subD hn.clean
  | row e sz n cs =>
   obtain ⟨b,cap,us,a1,a2,a3,a4,a5,a6,a7,a8,a9,b1,b2,b3⟩:=h
   refine ⟨b,cap,us,a1,a2,a3,a4,a5,a6,a7,a8,a9,by simpa using b1,fun j c hc=>?_,b3⟩
   obtain ⟨q,hq,rfl⟩:=map_get hc
   exact (b2 j q hq).subD hn.clean
theorem resOk_unsub {X:Map} (hn:NuOk X.nu) {w:World} {id:Nat} {r:Option Res} (hf:∀ q,r=some q→fnRes X.nu q=true) (h:ResOk X w id (r.map (subRes X.nu))):ResOk X w id r:=by
 cases r with
 | none=>exact h
 | some r =>
  cases r with
  | dead=>trivial
  | box cs =>
   obtain ⟨b,vs,e,a1,a2,a3,a4,a5,a6,a7⟩:=h
   refine ⟨b,vs,e,a1,a2,by simpa using a3,a4,fun j c hc=>?_,a6,a7⟩
   have hj:=lt_of_get hc
   exact (a5 j (Den.subD X.nu c) (by simp [hc])).unsubC hn (a6 _ (Array.mem_of_getElem? (some_getD (by simp at a3;omega)))) (List.all_eq_true.1 (hf _ rfl) c (List.mem_of_getElem? hc))
  | row e sz n cs =>
   obtain ⟨b,cap,us,a1,a2,a3,a4,a5,a6,a7,a8,a9,b1,b2,b3⟩:=h
   refine ⟨b,cap,us,a1,a2,a3,a4,a5,a6,a7,a8,a9,by simpa using b1,fun j c hc=>?_,b3⟩
   have hj:=lt_of_get hc
   have hle:n*sz≤cap*sz:=Nat.mul_le_mul_right _ a2
   exact (b2 j (Den.subD X.nu c) (by simp [hc])).unsubC hn (b3 _ (Array.mem_of_getElem? (some_getD (by simp at b1;omega)))) (List.all_eq_true.1 (hf _ rfl) c (List.mem_of_getElem? hc))
theorem resOk_setNu {X:Map} (nu:Nat→PV) {w:World} {id:Nat} {r:Option Res} (h:ResOk X w id r) (hp:∀ q,r=some q→pureRes q=true):ResOk (X.setNu nu) w id r:=by
 cases r with
 | none=>exact h
 | some r =>
  have hq:=hp r rfl
  cases r with
  | dead=>trivial
  | box cs =>
   obtain ⟨b,vs,e,a1,a2,a3,a4,a5,a6,a7⟩:=h
   exact ⟨b,vs,e,a1,a2,a3,a4,fun j c hc=>(a5 j c hc).setNu nu (pureL_mem hq c (List.mem_of_getElem? hc)),a6,a7⟩
  | row e sz n cs =>
   obtain ⟨b,cap,us,a1,a2,a3,a4,a5,a6,a7,a8,a9,b1,b2,b3⟩:=h
   exact ⟨b,cap,us,a1,a2,a3,a4,a5,a6,a7,a8,a9,b1,fun j c hc=>(b2 j c hc).setNu nu (pureL_mem hq c (List.mem_of_getElem? hc)),b3⟩
theorem owns_setNu {X:Map} {nu:Nat→PV} {id b:Nat} {r:Option Res}:Owns (X.setNu nu) id b r↔Owns X id b r:=by
 cases r with
 | none=>exact Iff.rfl
 | some r=>cases r<;>exact Iff.rfl
theorem setNu_self (X:Map) (nu:Nat→PV):(X.setNu nu).setNu X.nu=X:=by cases X;rfl
theorem acc_setNu {X0 X:Map} {w0 w:World} {s0 s:Nat→Option Res} (nu:Nat→PV) (h:Acc X0 w0 s0 X w s) (hp:∀ id q,s id=some q→pureRes q=true):Acc (X0.setNu nu) w0 s0 (X.setNu nu) w s :=
 ⟨⟨h.le.M,h.le.mb,h.le.mt,rfl⟩,h.ok,h.grow,h.os,h.tape,h.output,fun k hk hn=>h.keep k hk (fun id hi ho=>hn id hi (owns_setNu.2 ho)),
  fun b o v hv=>by
   rcases h.fresh b o v hv with h'|⟨id,hw,ho⟩|h'
   ·exact .inl h'
   ·exact .inr (.inl ⟨id,hw,owns_setNu.2 ho⟩)
   ·exact .inr (.inr h'),
  fun _ hn=>(hn trivial).elim,fun id _=>resOk_setNu nu (h.res id trivial) (hp id),
  fun id b _ ho=>(h.own id b trivial (owns_setNu.1 ho)).imp owns_setNu.2 (fun h=>h),fun i j b _ _ h1 h2=>h.dis i j b trivial trivial (owns_setNu.1 h1) (owns_setNu.1 h2)⟩
theorem acc_sub {X0 X:Map} (hn:NuOk X.nu) {w0 w:World} {s0:Nat→Option Res} {s:List Res} (h:Acc X0 w0 s0 X w (fun i=>s[i]?)):Acc X0 w0 s0 X w (fun i=>(s.map (subRes X.nu))[i]?) :=
 ⟨h.le,h.ok,h.grow,h.os,h.tape,h.output,h.keep,h.fresh,fun _ hn=>(hn trivial).elim,fun id _=>by show ResOk X w id _;rw [sub_get];exact resOk_sub hn (h.res id trivial),
  fun id b _ ho=>h.own id b trivial (by rw [sub_get] at ho;exact owns_sub.1 ho),fun i j b _ _ h1 h2=>h.dis i j b trivial trivial (by rw [sub_get] at h1;exact owns_sub.1 h1) (by rw [sub_get] at h2;exact owns_sub.1 h2)⟩
theorem acc_unsub {X0 X:Map} (hn:NuOk X.nu) {w0 w:World} {s0:Nat→Option Res} {s:List Res} (hf:s.all (fnRes X.nu)=true) (h:Acc X0 w0 s0 X w (fun i=>(s.map (subRes X.nu))[i]?)):Acc X0 w0 s0 X w (fun i=>s[i]?) :=
 ⟨h.le,h.ok,h.grow,h.os,h.tape,h.output,h.keep,h.fresh,fun _ hn=>(hn trivial).elim,fun id _=>by have:=h.res id trivial;rw [sub_get] at this;exact resOk_unsub hn (fun q hq=>List.all_eq_true.1 hf q (List.mem_of_getElem? hq)) this,
  fun id b _ ho=>h.own id b trivial (by rw [sub_get];exact owns_sub.2 ho),fun i j b _ _ h1 h2=>h.dis i j b trivial trivial (by rw [sub_get];exact owns_sub.2 h1) (by rw [sub_get];exact owns_sub.2 h2)⟩
theorem acc_sub0 {X0 X:Map} {nu:Nat→PV} {w0 w:World} {s0:List Res} {Y:Nat→Option Res} (h:Acc X0 w0 (fun i=>s0[i]?) X w Y):Acc X0 w0 (fun i=>(s0.map (subRes nu))[i]?) X w Y :=
 ⟨h.le,h.ok,h.grow,h.os,h.tape,h.output,fun k hk hno=>h.keep k hk (fun id hi ho=>hno id hi (by rw [sub_get];exact owns_sub.2 ho)),
  fun b o v hv=>by
   rcases h.fresh b o v hv with h'|⟨id,hw,ho⟩|h'
   ·exact .inl h'
   ·exact .inr (.inl ⟨id,hw,by rw [sub_get];exact owns_sub.2 ho⟩)
   ·exact .inr (.inr h'),
  fun _ hn=>(hn trivial).elim,h.res,fun id b hi ho=>(h.own id b hi ho).imp (fun h=>by rw [sub_get];exact owns_sub.2 h) (fun h=>h),h.dis⟩
theorem acc_unsub0 {X0 X:Map} {nu:Nat→PV} {w0 w:World} {s0:List Res} {Y:Nat→Option Res} (h:Acc X0 w0 (fun i=>(s0.map (subRes nu))[i]?) X w Y):Acc X0 w0 (fun i=>s0[i]?) X w Y :=
 ⟨h.le,h.ok,h.grow,h.os,h.tape,h.output,fun k hk hno=>h.keep k hk (fun id hi ho=>hno id hi (by rw [sub_get] at ho;exact owns_sub.1 ho)),
  fun b o v hv=>by
   rcases h.fresh b o v hv with h'|⟨id,hw,ho⟩|h'
   ·exact .inl h'
   ·exact .inr (.inl ⟨id,hw,by rw [sub_get] at ho;exact owns_sub.1 ho⟩)
   ·exact .inr (.inr h'),
  fun _ hn=>(hn trivial).elim,h.res,fun id b hi ho=>(h.own id b hi ho).imp (fun h=>by rw [sub_get] at h;exact owns_sub.1 h) (fun h=>h),h.dis⟩
theorem inv_sub {X:Map} (hn:NuOk X.nu) {w:World} {s:List Res} (h:Inv X w (fun i=>s[i]?)):Inv X w (fun i=>(s.map (subRes X.nu))[i]?) :=
 ⟨h.ok,fun id=>by show ResOk X w id _;rw [sub_get];exact resOk_sub hn (h.res id),fun i j b h1 h2=>h.dis i j b (by rw [sub_get] at h1;exact owns_sub.1 h1) (by rw [sub_get] at h2;exact owns_sub.1 h2)⟩
def EvS (P:Program) (g:FuncId) (args:List PV) (s:List Res) (r:PV) (s':List Res):Prop :=
 s.length≤s'.length∧(∃ fn,P.funcs[g]? = some fn∧(fn.name == "runtime.NumGoroutine")=false∧fn.body.isSome=true) ∧
 ∀ X w (vs:Array Value),vs.size=args.length→(∀ (j:Nat) p,args[j]? = some p→R X p (vs.getD j Go.undef))→Inv X w (fun i=>s[i]?) →
  Calls P g vs w fun e w'=>∃ v X',e = .returned v∧R X' r v∧Post X X' w w' (fun i=>s[i]?) (fun i=>s'[i]?) (fun _=>True)
def argB (nu:Nat→PV) (p:PV):Bool:=(subD nu p).pure&&oneB nu p
theorem EvS.of {P:Program} (hP:progOk P=true) {nu:Nat→PV} (hn:NuOk nu) {O:Orc} (hO:OrcOk P nu O) {k:Nat} {g:FuncId} {args:List PV} {s s':List Res} {r:PV} (h:callF P O k g args s=some (r,s'))
  (hargs:args.all (argB nu)=true) (hs:(s.map (subRes nu)).all pureRes=true) (hfs:s.all (fnRes nu)=true) (hr:(subD nu r).pure=true) (hs':(s'.map (subRes nu)).all pureRes=true):EvS P g (args.map (subD nu)) (s.map (subRes nu)) (subD nu r) (s'.map (subRes nu)):=by
 obtain ⟨hl,hfn,hcall⟩:=callF_sound hP hO k _ _ _ _ _ h
 refine ⟨by simpa using hl,hfn,fun X w vs h1 h2 h3=>?_⟩
 have hpure:∀ (l:List Res),l.all pureRes=true→∀ (id:Nat) q,l[id]? = some q→pureRes q=true:=fun l hl id q hq=>List.all_eq_true.1 hl q (List.mem_of_getElem? hq)
 have hm:∀ (j:Nat) p,args[j]? = some p→R (X.setNu nu) p (vs.getD j Go.undef):=fun j p hp=>by
  have ha:=List.all_eq_true.1 hargs p (List.mem_of_getElem? hp)
  simp only [argB,Bool.and_eq_true] at ha
  exact R.unsubO (X:=X.setNu nu) hn ((h2 j (subD nu p) (by simp [hp])).setNu nu ha.1) ha.2
 have ha0:=acc_setNu nu (Acc.refl h3) (hpure _ hs)
 have hinv:Inv (X.setNu nu) w (fun i=>s[i]?):=(acc_unsub (X:=X.setNu nu) hn hfs ha0).inv
 refine (hcall (X.setNu nu) w vs rfl (by simpa using h1) hm hinv).mono ?_
 rintro e w' ⟨v,X',he,hv,hp⟩
 have hnu:X'.nu=nu:=hp.le.nu.symm
 have hn':NuOk X'.nu:=by rw [hnu];exact hn
 have hv':R X' (subD nu r) v:=by rw [← hnu];exact hv.subD hn'.clean
 refine ⟨v,X'.setNu X.nu,he,hv'.setNu X.nu hr,?_⟩
 have hp2:Acc (X.setNu nu) w (fun i=>(s.map (subRes nu))[i]?) X' w' (fun i=>(s'.map (subRes nu))[i]?):=by
  have:=acc_sub hn' hp
  rw [hnu] at this
  exact acc_sub0 this
 have:=acc_setNu X.nu hp2 (hpure _ hs')
 rw [setNu_self] at this
 exact this
theorem EvS.told {nu:Nat→PV} (hn:NuOk nu) {g:FuncId} {args:List PV} {s s':List Res} {r:PV} (h:EvS P g (args.map (subD nu)) (s.map (subRes nu)) (subD nu r) (s'.map (subRes nu))) (hr:oneB nu r=true) (hfs:s'.all (fnRes nu)=true) :
  s.length≤s'.length∧(∃ fn,P.funcs[g]? = some fn∧(fn.name == "runtime.NumGoroutine")=false∧fn.body.isSome=true) ∧
 ∀ X w (vs:Array Value),X.nu=nu→vs.size=args.length→(∀ (j:Nat) p,args[j]? = some p→R X p (vs.getD j Go.undef))→Inv X w (fun i=>s[i]?) →
  Calls P g vs w fun e w'=>∃ v X',e = .returned v∧R X' r v∧Post X X' w w' (fun i=>s[i]?) (fun i=>s'[i]?) (fun _=>True):=by
 obtain ⟨hl,hfn,hcall⟩:=h
 refine ⟨by simpa using hl,hfn,fun X w vs hX h1 h2 h3=>?_⟩
 subst hX
 refine (hcall X w vs (by simpa using h1) (fun j p hp=>?_) (inv_sub hn h3)).mono ?_
 ·obtain ⟨q,hq,rfl⟩:=map_get hp
  exact (h2 j q hq).subD hn.clean
 ·rintro e w' ⟨v,X',he,hv,hp⟩
  have hnu:X'.nu=X.nu:=hp.le.nu.symm
  refine ⟨v,X',he,R.unsubO (by rw [hnu];exact hn) (by rw [hnu];exact hv) (by rw [hnu];exact hr),?_⟩
  have:=acc_unsub0 hp
  rw [← hnu] at this hn hfs
  exact acc_unsub hn hfs this
def subT (nu:Nat→PV) (T:List (Nat × PV)):List (Nat × PV):=T.map fun p=>(p.1,subD nu p.2)
theorem lookup_sub (nu:Nat→PV):∀ (T:List (Nat × PV)) (t:Nat),lookupT (subT nu T) t=subD nu (lookupT T t)
 | [],t=>rfl
 | (k,v)::T,t=>by
  simp only [subT,List.map_cons,lookupT_cons]
  split
  ·rfl
  ·exact lookup_sub nu T t
def pureT (T:List (Nat × PV)):Bool:=T.all fun p=>p.2.pure
theorem pureT_lookup:∀ (T:List (Nat × PV)) (t:Nat),pureT T=true→(lookupT T t).pure=true
 | [],t,_=>rfl
 | (k,v)::T,t,h=>by
  simp only [pureT,List.all_cons,Bool.and_eq_true] at h
  simp only [lookupT_cons]
  split
  ·exact h.1
  ·exact pureT_lookup T t h.2
def oneT (nu:Nat→PV) (T:List (Nat × PV)):Bool:=T.all fun p=>oneB nu p.2
theorem oneT_lookup (nu:Nat→PV):∀ (T:List (Nat × PV)) (t:Nat),oneT nu T=true→oneB nu (lookupT T t)=true
 | [],t,_=>rfl
 | (k,v)::T,t,h=>by
  simp only [oneT,List.all_cons,Bool.and_eq_true] at h
  simp only [lookupT_cons]
  split
  ·exact h.1
  ·exact oneT_lookup nu T t h.2
def Weaker (T T0:List (Nat × PV)):Prop:=∀ t,lookupT T0 t=lookupT T t∨lookupT T0 t = .any
theorem relSt_weak {N:Nat} {X0 X:Map} {w0 w:World} {s0:Nat→Option Res} {T T0:List (Nat × PV)} {s:List Res} {a:Act} (h:RelSt P N X0 w0 s0 X w ⟨T,s⟩ a) (hw:Weaker T T0):RelSt P N X0 w0 s0 X w ⟨T0,s⟩ a :=
 ⟨h.acc,fun t=>by
  rcases hw t with e|e
  ·show R X (lookupT T0 t) _
   rw [e];exact h.slots t
  ·show R X (lookupT T0 t) _
   rw [e];exact .any _,h.size,h.defers⟩
theorem relSt_sub {N:Nat} {X0 X:Map} (hn:NuOk X.nu) {w0 w:World} {s0:Nat→Option Res} {T:List (Nat × PV)} {s:List Res} {a:Act} (h:RelSt P N X0 w0 s0 X w ⟨T,s⟩ a):RelSt P N X0 w0 s0 X w ⟨subT X.nu T,s.map (subRes X.nu)⟩ a :=
 ⟨acc_sub hn h.acc,fun t=>by show R X (lookupT (subT X.nu T) t) _;rw [lookup_sub];exact (h.slots t).subD hn.clean,h.size,h.defers⟩
theorem relSt_unsub {N:Nat} {X0 X:Map} (hn:NuOk X.nu) {w0 w:World} {s0:Nat→Option Res} {T:List (Nat × PV)} {s:List Res} {a:Act} (hT:oneT X.nu T=true) (hfs:s.all (fnRes X.nu)=true) (h:RelSt P N X0 w0 s0 X w ⟨subT X.nu T,s.map (subRes X.nu)⟩ a):RelSt P N X0 w0 s0 X w ⟨T,s⟩ a :=
 ⟨acc_unsub hn hfs h.acc,fun t=>by
  have:=h.slots t
  have e:lookupT (subT X.nu T) t=subD X.nu (lookupT T t):=lookup_sub _ _ _
  have h1:R X (lookupT (subT X.nu T) t) (a.tmps.getD t Go.undef):=this
  rw [e] at h1
  exact R.unsubO hn h1 (oneT_lookup _ T t hT),h.size,h.defers⟩
theorem relSt_setNu {N:Nat} {X0 X:Map} (nu:Nat→PV) {w0 w:World} {s0:Nat→Option Res} {T:List (Nat × PV)} {s:List Res} {a:Act} (h:RelSt P N X0 w0 s0 X w ⟨T,s⟩ a) (hT:pureT T=true) (hs:s.all pureRes=true):RelSt P N (X0.setNu nu) w0 s0 (X.setNu nu) w ⟨T,s⟩ a :=
 ⟨acc_setNu nu h.acc (fun _ q hq=>List.all_eq_true.1 hs q (List.mem_of_getElem? hq)),fun t=>(h.slots t).setNu nu (pureT_lookup T t hT),h.size,h.defers⟩
def RunsP (P:Program) (N:Nat) (c:Code) (T:List (Nat × PV)) (s:List Res) (ex:Ex) (T':List (Nat × PV)) (s':List Res):Prop:=∀ X0 w0 s0,Runs P N X0 w0 s0 c ⟨T,s⟩ ex ⟨T',s'⟩
theorem loopsIn_trans:∀ (c d:Code),d∈loopsIn c→∀ x∈loopsIn d,x∈loopsIn c:=by
 intro c
 induction c with
 | seq a b iha ihb =>
  intro d hd x hx
  simp only [loopsIn,List.mem_append] at hd ⊢
  rcases hd with hd|hd
  ·exact .inl (iha d hd x hx)
  ·exact .inr (ihb d hd x hx)
 | cond _ a b iha ihb =>
  intro d hd x hx
  simp only [loopsIn,List.mem_append] at hd ⊢
  rcases hd with hd|hd
  ·exact .inl (iha d hd x hx)
  ·exact .inr (ihb d hd x hx)
 | block _ b ih=>intro d hd x hx;simp only [loopsIn] at hd ⊢;exact ih d hd x hx
 | scope b ih=>intro d hd x hx;simp only [loopsIn] at hd ⊢;exact ih d hd x hx
 | loop b ih =>
  intro d hd x hx
  simp only [loopsIn,List.mem_cons] at hd ⊢
  rcases hd with rfl|hd
  ·exact .inr hx
  ·exact .inr (ih d hd x hx)
 | _=>intro d hd;simp [loopsIn] at hd
theorem RunsP.of {N:Nat} (hP:progOk P=true) {nu:Nat→PV} (hn:NuOk nu) {O:Orc} (hO:OrcOk P nu O) {k n m:Nat} {f:FuncId} {fn:Func} {body b:Code} (hf:bodyOf P f=some (fn,body)) (hN:fn.ntmps=N) (hb:b∈loopsIn body) {T T':List (Nat × PV)} {s s':List Res} {ex:Ex}
  (hc:codeOk N b=true) (h:execN P O (callF P O k) (O.loop f) n m b ⟨T,s⟩=some (ex,⟨T',s'⟩)) (hT:pureT (subT nu T)=true) (hT1:oneT nu T=true) (hfs:s.all (fnRes nu)=true) (hs:(s.map (subRes nu)).all pureRes=true) (hT':pureT (subT nu T')=true) (hs':(s'.map (subRes nu)).all pureRes=true) :
  RunsP P N b (subT nu T) (s.map (subRes nu)) ex (subT nu T') (s'.map (subRes nu)):=by
 intro X0 w0 s0 X w a hr
 have hmix:P.follows .mixedOrders=true:=by
  unfold progOk at hP
  simp only [Bool.and_eq_true] at hP
  exact hP.2
 have hr1:=relSt_unsub (X0:=X0.setNu nu) (X:=X.setNu nu) hn hT1 hfs (relSt_setNu nu hr hT hs)
 refine wp_mono (execN_sound (X0:=X0.setNu nu) (nu:=nu) rfl hO.toOrcOk0 (callF_sound hP hO k) hmix (LB:=loopsIn body) (L:=O.loop f) (by rw [← hN];exact hO.loop f fn body hf _ _ _ rfl) n m b _ _ _ h hc (fun x hx=>loopsIn_trans body b hb x hx) _ w a hr1) ?_
 rintro e a' w' ⟨he,X',hr'⟩
 have hnu:X'.nu=nu:=hr'.acc.le.nu.symm
 have hr2:=relSt_sub (by rw [hnu];exact hn) hr'
 rw [hnu] at hr2
 have hr3:=relSt_setNu X0.nu hr2 hT' hs'
 rw [setNu_self] at hr3
 exact ⟨he,_,hr3⟩
def RunsR (P:Program) (N:Nat) (c:Code) (T:List (Nat × PV)) (s:List Res) (ex:Ex) (T':List (Nat × PV)) (s':List Res):Prop :=
 ∃ n,∀ X0 w0 s0 X w a,RelSt P N X0 w0 s0 X w ⟨T,s⟩ a→Code.rounds P c (fun e a' w'=>e=ex.toExit∧∃ X',RelSt P N X0 w0 s0 X' w' ⟨T',s'⟩ a') n a w
theorem RunsR.loop {N:Nat} {c:Code} {T T':List (Nat × PV)} {s s':List Res} {ex:Ex} (h:RunsR P N c T s ex T' s'):RunsP P N (.loop c) T s ex T' s':=by
 obtain ⟨n,h⟩:=h
 exact fun X0 w0 s0 X w a hr=>wp_loop_rounds n (h X0 w0 s0 X w a hr)
theorem RunsR.leave {N:Nat} {c:Code} {T T':List (Nat × PV)} {s s':List Res} {ex:Ex} (h:RunsP P N c T s ex T' s') (hne:ex≠.normal):RunsR P N c T s ex T' s' :=
 ⟨1,fun X0 w0 s0 X w a hr=>wp_mono (h X0 w0 s0 X w a hr) fun e a' w' ⟨he,hx⟩=>by
  subst he
  cases ex with
  | normal=>exact absurd rfl hne
  | _=>exact ⟨rfl,hx⟩⟩
theorem RunsR.round {N:Nat} {c:Code} {T T1 T':List (Nat × PV)} {s s1 s':List Res} {ex:Ex} (h:RunsP P N c T s .normal T1 s1) (hr:RunsR P N c T1 s1 ex T' s'):RunsR P N c T s ex T' s':=by
 obtain ⟨n,hn⟩:=hr
 refine ⟨n+1,fun X0 w0 s0 X w a hrel=>wp_mono (h X0 w0 s0 X w a hrel) fun e a' w' ⟨he,X',hr'⟩=>?_⟩
 subst he
 exact hn X0 w0 s0 X' w' a' hr'
theorem Ev.ofD (hP:progOk P=true) {nu:Nat→PV} (hn:NuOk nu) {O:Orc} (hO:OrcOk P nu O) {k:Nat} {g:FuncId} {args:List PV} {r:PV} (h:callF P O k g args []=some (r,[]))
  (hargs:∀ p∈args,argB nu p=true∧p.shut=true) (hr:(subD nu r).pure=true) (hr2:(subD nu r).shut2=true):Ev P g (args.map (subD nu)) (subD nu r):=by
 obtain ⟨_,hfn,hcall⟩:=callF_sound hP hO k _ _ _ _ _ h
 refine ⟨hfn,fun X w vs h1 h2 h3=>?_⟩
 let Z:Map:={ M:=X.M,mb:=fun _=>none,mt:=fun _ _=>none,nu:=nu }
 have hm:∀ (j:Nat) p,args[j]? = some p→R Z p (vs.getD j Go.undef):=fun j p hp=>by
  obtain ⟨q1,q2⟩:=hargs p (List.mem_of_getElem? hp)
  simp only [argB,Bool.and_eq_true] at q1
  have:=(h2 j (subD nu p) (by simp [hp])).setNu nu q1.1
  exact (R.unsubO (X:=X.setNu nu) hn this q1.2).shut (X:=X.setNu nu) (Y:=Z) rfl (fun _ _ _ h=>h) q2
 have hinv:Inv Z w (fun i=>([]:List Res)[i]?):=⟨h3,fun id=>⟨rfl,fun _=>rfl⟩,fun i j b hi=>hi.elim⟩
 refine (hcall Z w vs rfl (by simpa using h1) hm hinv).mono ?_
 rintro e w' ⟨v,X',he,hv,hp⟩
 have hnu:X'.nu=nu:=hp.le.nu.symm
 let Y:Map:={ M:=X'.M,mb:=X.mb,mt:=X.mt,nu:=X.nu }
 have hv':R X' (subD nu r) v:=by rw [← hnu];exact hv.subD (by rw [hnu];exact hn.clean)
 refine ⟨v,Y,he,(hv'.setNu X.nu hr).shut2 (X:=X'.setNu X.nu) (Y:=Y) rfl (fun _ _ _ h=>h) hr2,⟨⟨hp.le.M,fun _ _ h=>h,fun _ _ _ h=>h,rfl⟩,hp.ok,hp.grow,hp.os,hp.tape,hp.output,fun k hk _=>hp.keep k hk (fun id _ ho=>ho),fun b o u hu=>?_,fun _ _=>⟨rfl,rfl⟩,fun _ hw=>hw.elim,fun _ _ hw=>hw.elim,fun _ _ _ hw=>hw.elim⟩⟩
 rcases hp.fresh b o u hu with h'|⟨_,_,ho⟩|h'
 ·exact .inl h'
 ·exact ho.elim
 ·exact .inr (.inr h')
theorem EvRow.ofD (hP:progOk P=true) {nu:Nat→PV} (hn:NuOk nu) {O:Orc} (hO:OrcOk P nu O) {k k':Nat} {g:FuncId} {args:List PV} {i n:Nat} {s':List Res} {e:TypeId} {sz:Nat} {cs:List PV}
  (h:callB P O (callF P O k) k' g args []=some (.ms i n,s')) (hrow:s'[i]? = some (.row e sz n cs))
  (hargs:∀ p∈args,argB nu p=true∧p.shut=true) (hcs:∀ c∈cs,(subD nu c).pure=true∧(subD nu c).clean=true):EvRow P g (args.map (subD nu)) e sz n (cs.map (subD nu)):=by
 obtain ⟨_,hfn,hcall⟩:=callB_sound hP hO (callF_sound hP hO k) k' h
 refine ⟨hfn,fun X w vs h1 h2 h3=>?_⟩
 let Z:Map:={ M:=X.M,mb:=fun _=>none,mt:=fun _ _=>none,nu:=nu }
 have hm:∀ (j:Nat) p,args[j]? = some p→R Z p (vs.getD j Go.undef):=fun j p hp=>by
  obtain ⟨q1,q2⟩:=hargs p (List.mem_of_getElem? hp)
  simp only [argB,Bool.and_eq_true] at q1
  have:=(h2 j (subD nu p) (by simp [hp])).setNu nu q1.1
  exact (R.unsubO (X:=X.setNu nu) hn this q1.2).shut (X:=X.setNu nu) (Y:=Z) rfl (fun _ _ _ h=>h) q2
 have hinv:Inv Z w (fun i=>([]:List Res)[i]?):=⟨h3,fun id=>⟨rfl,fun _=>rfl⟩,fun i j b hi=>hi.elim⟩
 refine (hcall Z w vs rfl (by simpa using h1) hm hinv).mono ?_
 rintro ex w' ⟨v,X',he,hv,hp⟩
 have hnu:X'.nu=nu:=hp.le.nu.symm
 let Y:Map:={ M:=X'.M,mb:=X.mb,mt:=X.mt,nu:=X.nu }
 have hr:=hp.res i trivial
 rw [hrow] at hr
 obtain ⟨b,cap,us,a1,a2,a3,a4,a5,a6,a7,a8,a9,b1,b2,b3⟩:=hr
 cases hv with
 | ms _ _ b' cap' hb =>
  rw [a1] at hb
  cases hb
  have hfresh:w.heap.size≤b:=by
   rcases hp.own i b trivial (by show Owns X' i b s'[i]?;rw [hrow];exact ⟨cap,a1⟩) with ho|ho
   ·exact ho.elim
   ·exact ho
  refine ⟨_,he,Y,b,cap,us,rfl,hfresh,a2,a3,a4,a5,a6,a9,by simpa using b1,fun j c hc=>?_,b3,⟨⟨hp.le.M,fun _ _ h=>h,fun _ _ _ h=>h,rfl⟩,hp.ok,hp.grow,hp.os,hp.tape,hp.output,fun k hk _=>hp.keep k hk (fun id _ ho=>ho),fun b o u hu=>?_,fun _ _=>⟨rfl,rfl⟩,fun _ hw=>hw.elim,fun _ _ hw=>hw.elim,fun _ _ _ hw=>hw.elim⟩⟩
  ·obtain ⟨q,hq,rfl⟩:=map_get hc
   obtain ⟨c1,c2⟩:=hcs q (List.mem_of_getElem? hq)
   have h0:=(b2 j q hq).subD (by rw [hnu];exact hn.clean)
   rw [hnu] at h0
   exact (h0.setNu X.nu c1).clean (X:=X'.setNu X.nu) (Y:=Y) rfl (fun _ _ _ h=>h) c2
  ·rcases hp.fresh b o u hu with h'|⟨_,_,ho⟩|h'
   ·exact .inl h'
   ·exact ho.elim
   ·exact .inr (.inr h')
end
open Go Go.RowKit
inductive Tag where
 | bin (op:BinOp) (ty:TypeId)
 | un (op:UnOp)
 | conv (src dst:TypeId)
 | index (ty:TypeId)
 | slice (ty:TypeId) (lo hi:Bool)
 | len (ty:TypeId)
 | ix (ty:TypeId)
def Tag.same:Tag→Tag→Bool
 | .bin o t, .bin p u=>decide (o=p)&&Nat.beq t u
 | .un o, .un p=>decide (o=p)
 | .conv a b, .conv c d=>Nat.beq a c&&Nat.beq b d
 | .index a, .index b=>Nat.beq a b
 | .slice a l h, .slice b m k=>Nat.beq a b&&(l==m&&h==k)
 | .len a, .len b=>Nat.beq a b
 | .ix a, .ix b=>Nat.beq a b
 | _,_=>false
theorem Tag.same_eq {a b:Tag} (h:Tag.same a b=true):a=b:=by
 cases a<;>cases b<;>simp [Tag.same] at h
 ·rw [h.1,h.2]
 ·rw [h]
 ·rw [h.1,h.2]
 ·rw [h]
 ·rw [h.1,h.2.1,h.2.2]
 ·rw [h]
 ·rw [h]
def tagOf:Op→Option Tag
 | .binOp op ty _ _ _=>some (.bin op ty)
 | .unOp op _ _=>some (.un op)
 | .convert s d _=>some (.conv s d)
 | .index t _ _=>some (.index t)
 | .indexAddr t _ _=>some (.ix t)
 | .slice t _ lo hi none=>some (.slice t lo.isSome hi.isSome)
 | .call c=>match c.callee,c.args.toList,c.argTypes[0]? with | .builtin .len,[_],some t=>some (.len t)|_,_,_=>none
 | _=>none
def tagP (P:Program):Tag→List PV→Option PV
 | .bin op t,[x,y]=>binP P op t x y
 | .un op,[x]=>unP op x
 | .conv s d,[x]=>convP P s d x
 | .index t,[x,i]=>indexP P t x i
 | .ix t,[x,i]=>indexAddrP P t x i
 | .slice t true true,[x,l,h]=>sliceP P t x (some l) (some h)
 | .slice t true false,[x,l]=>sliceP P t x (some l) none
 | .slice t false true,[x,h]=>sliceP P t x none (some h)
 | .slice t false false,[x]=>sliceP P t x none none
 | .len t,[x]=>lenP P t x
 | _,_=>none
inductive Fact where
 | op (t:Tag) (args:List PV) (r:PV)
 | prim (g:FuncId) (args:List PV) (r:PV)
 | st (g:FuncId) (args:List PV) (s:List Res) (r:PV) (s':List Res)
 | row (g:FuncId) (args:List PV) (e:TypeId) (sz n:Nat) (cs:List PV)
 | loop (f:FuncId) (rid:Nat) (T:List (Nat × PV)) (s:List Res) (ex:Ex) (T':List (Nat × PV)) (s':List Res)
def Res.same:Res→Res→Bool
 | .dead, .dead=>true
 | .box a, .box b=>PV.sameL a b
 | .row e sz n cs, .row e' sz' n' cs'=>Nat.beq e e'&&(Nat.beq sz sz'&&(Nat.beq n n'&&PV.sameL cs cs'))
 | _,_=>false
theorem Res.same_eq {a b:Res} (h:Res.same a b=true):a=b:=by
 cases a<;>cases b<;>simp [Res.same] at h
 ·rfl
 ·rw [sameL_eq _ _ h]
 ·rw [h.1,h.2.1,h.2.2.1,sameL_eq _ _ h.2.2.2]
def sameS:List Res→List Res→Bool
 | [],[]=>true
 | a::l,b::m=>Res.same a b&&sameS l m
 | _,_=>false
theorem sameS_eq:∀ {a b:List Res},sameS a b=true→a=b
 | [],[],_=>rfl
 | a::l,b::m,h=>by
  simp only [sameS,Bool.and_eq_true] at h
  rw [Res.same_eq h.1,sameS_eq h.2]
 | [],_::_,h=>by cases h
 | _::_,[],h=>by cases h
def fOp:List Fact→Tag→List PV→Option PV
 | [],_,_=>none
 | .op t l r::fs,u,args=>match Tag.same t u&&PV.sameL l args with|true=>some r|false=>fOp fs u args
 | _::fs,u,args=>fOp fs u args
def fPrim:List Fact→FuncId→List PV→Option PV
 | [],_,_=>none
 | .prim g l r::fs,f,args=>match Nat.beq g f&&PV.sameL l args with|true=>some r|false=>fPrim fs f args
 | _::fs,f,args=>fPrim fs f args
def fSt:List Fact→FuncId→List PV→List Res→Option (PV × List Res)
 | [],_,_,_=>none
 | .st g l s r s'::fs,f,args,s0=>match Nat.beq g f&&(PV.sameL l args&&sameS s s0) with|true=>some (r,s')|false=>fSt fs f args s0
 | _::fs,f,args,s0=>fSt fs f args s0
def fRow:List Fact→FuncId→List PV→Option (TypeId × Nat × Nat × List PV)
 | [],_,_=>none
 | .row g l e sz n cs::fs,f,args=>match Nat.beq g f&&PV.sameL l args with|true=>some (e,sz,n,cs)|false=>fRow fs f args
 | _::fs,f,args=>fRow fs f args
def matchT (T:List (Nat × PV)):List (Nat × PV)→Bool
 | []=>true
 | (t,p)::r=>PV.same (lookupT T t) p&&matchT T r
def fLoop:List Fact→FuncId→Nat→St→Option (Ex × St)
 | [],_,_,_=>none
 | .loop g i T s ex T' s'::fs,f,rid,st=>match Nat.beq g f&&(Nat.beq i rid&&(sameS s st.s&&matchT st.T T)) with|true=>some (ex,⟨T',s'⟩)|false=>fLoop fs f rid st
 | _::fs,f,rid,st=>fLoop fs f rid st
def fOrc (own:TypeId→Nat→Bool) (fs:List Fact):Orc where
 prim:=fPrim fs
 op:=fun o l=>match tagOf o with|some t=>fOp fs t l|none=>none
 own:=own
 row:=fRow fs
 st:=fSt fs
 loop:=fLoop fs
def FactOk (P:Program) (nu:Nat→PV):Fact→Prop
 | .op t args r=>tagP P t (args.map (subD nu))=some (subD nu r)∧oneB nu r=true
 | .prim g args r=>Ev P g (args.map (subD nu)) (subD nu r)∧oneB nu r=true
 | .st g args s r s'=>EvS P g (args.map (subD nu)) (s.map (subRes nu)) (subD nu r) (s'.map (subRes nu))∧(oneB nu r&&s'.all (fnRes nu))=true
 | .row g args e sz n cs=>EvRow P g (args.map (subD nu)) e sz n (cs.map (subD nu))∧cs.all (fun c=>fnB nu [c])=true
 | .loop f rid T s ex T' s'=>s.length≤s'.length∧(∀ fn body,bodyOf P f=some (fn,body)→∀ b∈loopsIn body,firstId b=rid→RunsP P fn.ntmps (.loop b) (subT nu T) (s.map (subRes nu)) ex (subT nu T') (s'.map (subRes nu)))∧(oneT nu T'&&s'.all (fnRes nu))=true
def FactsOk (P:Program) (nu:Nat→PV):List Fact→Prop
 | []=>True
 | f::fs=>FactOk P nu f∧FactsOk P nu fs
section
variable {P:Program} {nu:Nat→PV}
theorem FactsOk.mem:∀ {fs:List Fact},FactsOk P nu fs→∀ f∈fs,FactOk P nu f
 | [],_,f,hf=>by simp at hf
 | g::fs,h,f,hf=>by
  rcases List.mem_cons.1 hf with rfl|hf
  ·exact h.1
  ·exact FactsOk.mem h.2 f hf
theorem FactsOk.append:∀ {fs gs:List Fact},FactsOk P nu fs→FactsOk P nu gs→FactsOk P nu (fs++gs)
 | [],_,_,h=>h
 | _::_,_,h,k=>⟨h.1,FactsOk.append h.2 k⟩
theorem FactsOk.of:∀ {fs:List Fact},(∀ f∈fs,FactOk P nu f)→FactsOk P nu fs
 | [],_=>trivial
 | f::fs,h=>⟨h f (by simp),FactsOk.of fun g hg=>h g (by simp [hg])⟩
theorem fOp_mem:∀ (fs:List Fact) (t:Tag) (l:List PV) (r:PV),fOp fs t l=some r→.op t l r∈fs
 | [],_,_,_,h=>by cases h
 | .op t l r::fs,u,args,r',h=>by
  unfold fOp at h
  split at h
  ·rename_i hc
   simp only [Bool.and_eq_true] at hc
   cases h
   rw [Tag.same_eq hc.1,sameL_eq _ _ hc.2];simp
  ·exact List.mem_cons_of_mem _ (fOp_mem fs u args r' h)
 | .prim .. :: fs,u,args,r',h | .st .. :: fs,u,args,r',h | .row .. :: fs,u,args,r',h | .loop .. :: fs,u,args,r',h=>List.mem_cons_of_mem _ (fOp_mem fs u args r' h)
theorem fPrim_mem:∀ (fs:List Fact) (t:FuncId) (l:List PV) (r:PV),fPrim fs t l=some r→.prim t l r∈fs
 | [],_,_,_,h=>by cases h
 | .prim t l r::fs,u,args,r',h=>by
  unfold fPrim at h
  split at h
  ·rename_i hc
   simp only [Bool.and_eq_true,Nat.beq_eq] at hc
   cases h
   rw [hc.1,sameL_eq _ _ hc.2];simp
  ·exact List.mem_cons_of_mem _ (fPrim_mem fs u args r' h)
 | .op .. :: fs,u,args,r',h | .st .. :: fs,u,args,r',h | .row .. :: fs,u,args,r',h | .loop .. :: fs,u,args,r',h=>List.mem_cons_of_mem _ (fPrim_mem fs u args r' h)
theorem fSt_mem:∀ (fs:List Fact) (t:FuncId) (l:List PV) (s:List Res) (r:PV) (s':List Res),fSt fs t l s=some (r,s')→.st t l s r s'∈fs
 | [],_,_,_,_,_,h=>by cases h
 | .st t l s r s'::fs,u,args,s0,r',s1,h=>by
  unfold fSt at h
  split at h
  ·rename_i hc
   simp only [Bool.and_eq_true,Nat.beq_eq] at hc
   cases h
   rw [hc.1,sameL_eq _ _ hc.2.1,sameS_eq hc.2.2];simp
  ·exact List.mem_cons_of_mem _ (fSt_mem fs u args s0 r' s1 h)
 | .op .. :: fs,u,args,s0,r',s1,h | .prim .. :: fs,u,args,s0,r',s1,h | .row .. :: fs,u,args,s0,r',s1,h | .loop .. :: fs,u,args,s0,r',s1,h=>List.mem_cons_of_mem _ (fSt_mem fs u args s0 r' s1 h)
theorem fRow_mem:∀ (fs:List Fact) (t:FuncId) (l:List PV) (e:TypeId) (sz n:Nat) (cs:List PV),fRow fs t l=some (e,sz,n,cs)→.row t l e sz n cs∈fs
 | [],_,_,_,_,_,_,h=>by cases h
 | .row t l e sz n cs::fs,u,args,e',sz',n',cs',h=>by
  unfold fRow at h
  split at h
  ·rename_i hc
   simp only [Bool.and_eq_true,Nat.beq_eq] at hc
   cases h
   rw [hc.1,sameL_eq _ _ hc.2];simp
  ·exact List.mem_cons_of_mem _ (fRow_mem fs u args e' sz' n' cs' h)
 | .op .. :: fs,u,args,e',sz',n',cs',h | .prim .. :: fs,u,args,e',sz',n',cs',h | .st .. :: fs,u,args,e',sz',n',cs',h | .loop .. :: fs,u,args,e',sz',n',cs',h=>List.mem_cons_of_mem _ (fRow_mem fs u args e' sz' n' cs' h)
theorem fLoop_mem:∀ (fs:List Fact) (f:FuncId) (rid:Nat) (st:St) (ex:Ex) (st':St),fLoop fs f rid st=some (ex,st')→∃ T, .loop f rid T st.s ex st'.T st'.s∈fs∧matchT st.T T=true
 | [],_,_,_,_,_,h=>by cases h
 | .loop g i T s ex0 T' s'::fs,f,rid,st,ex,st',h=>by
  unfold fLoop at h
  split at h
  ·rename_i hc
   simp only [Bool.and_eq_true,Nat.beq_eq] at hc
   cases h
   refine ⟨T,?_,hc.2.2.2⟩
   rw [hc.1,hc.2.1,sameS_eq hc.2.2.1];simp
  ·obtain ⟨T1,h1,h2⟩:=fLoop_mem fs f rid st ex st' h
   exact ⟨T1,List.mem_cons_of_mem _ h1,h2⟩
 | .op .. :: fs,f,rid,st,ex,st',h | .prim .. :: fs,f,rid,st,ex,st',h | .st .. :: fs,f,rid,st,ex,st',h | .row .. :: fs,f,rid,st,ex,st',h=>by
  obtain ⟨T1,h1,h2⟩:=fLoop_mem fs f rid st ex st' h
  exact ⟨T1,List.mem_cons_of_mem _ h1,h2⟩
theorem matchT_weak:∀ {T T0:List (Nat × PV)},matchT T T0=true→Weaker T T0
 | _,[],_=>fun _=>.inr rfl
 | T,(t,p)::r,h=>fun u=>by
  simp only [matchT,Bool.and_eq_true] at h
  simp only [lookupT_cons]
  split
  ·rename_i e
   subst e
   exact .inl (same_eq _ _ h.1).symm
  ·exact matchT_weak h.2 u
theorem gives_tag {X:Map} {w:World} {t:Tag} {l:List PV} {p:PV} {ρ:Operand→Value} {oper:Oper} (hok:X.Ok w) (ht:tagOf oper.op=some t) (h:tagP P t l=some p)
  (hR:∀ (j:Nat) x q,oper.op.operands.toList[j]? = some x→l[j]? = some q→R X q (ρ x)) (hl:l.length=oper.op.operands.toList.length):∃ v,(execOp ρ oper).run P w = .ok (.value v) w∧R X p v:=by
 generalize hop:oper.op=o at ht hR hl
 have run:∀ {m:Sem Value},Gives P X w m p→(execOp ρ oper=do pure (.value (← m)))→∃ v,(execOp ρ oper).run P w = .ok (.value v) w∧R X p v:=fun {m} hg he=>by
  obtain ⟨v,hv,hRv⟩:=hg
  refine ⟨v,?_,hRv⟩
  rw [he]
  simp only [Sem.run_bind,hv,Result.andThen_ok,Sem.run_pure]
 unfold tagOf at ht
 split at ht
 ·rename_i op ty x y _
  cases ht
  match l,hl with
  | [a,b],_ =>
   refine run (m:=do eqGuard op ty x y (ρ x) (ρ y);binOp op ty (ρ x) (ρ y)) ?_ ?_
   ·obtain ⟨v,hv,hRv⟩:=gives_bin (P:=P) (X:=X) (w:=w) (x:=x) (y:=y) (show binP P op ty a b=some p from h) (hR 0 x a (by simp [Op.operands]) rfl) (hR 1 y b (by simp [Op.operands]) rfl)
    exact ⟨v,hv,hRv⟩
   ·unfold execOp;rw [hop];try simp only [bind_assoc]
 ·rename_i op ty x
  cases ht
  match l,hl with
  | [a],_ =>
   refine run (gives_un (show unP op a=some p from h) (hR 0 x a (by simp [Op.operands]) rfl)) ?_
   unfold execOp;rw [hop];try rfl
 ·rename_i s d x
  cases ht
  match l,hl with
  | [a],_ =>
   refine run (gives_conv hok (show convP P s d a=some p from h) (hR 0 x a (by simp [Op.operands]) rfl)) ?_
   unfold execOp;rw [hop];try rfl
 ·rename_i t x i
  cases ht
  match l,hl with
  | [a,b],_ =>
   refine run (gives_index (show indexP P t a b=some p from h) (hR 0 x a (by simp [Op.operands]) rfl) (hR 1 i b (by simp [Op.operands]) rfl)) ?_
   unfold execOp;rw [hop];try rfl
 ·rename_i t x i
  cases ht
  match l,hl with
  | [a,b],_ =>
   refine run (gives_indexAddr (show indexAddrP P t a b=some p from h) (hR 0 x a (by simp [Op.operands]) rfl) (hR 1 i b (by simp [Op.operands]) rfl)) ?_
   unfold execOp;rw [hop];try rfl
 ·rename_i t x lo hi
  cases ht
  cases lo with
  | none =>
   cases hi with
   | none =>
    match l,hl with
    | [a],_ =>
     refine run (gives_slice (plo:=none) (phi:=none) (lo:=none) (hi:=none) (show sliceP P t a none none=some p from h) (hR 0 x a (by simp [Op.operands]) rfl) trivial trivial) ?_
     unfold execOp;rw [hop];try rfl
   | some hi =>
    match l,hl with
    | [a,b],_ =>
     refine run (gives_slice (plo:=none) (phi:=some b) (lo:=none) (hi:=some (ρ hi)) (show sliceP P t a none (some b)=some p from h) (hR 0 x a (by simp [Op.operands]) rfl) trivial (hR 1 hi b (by simp [Op.operands]) rfl)) ?_
     unfold execOp;rw [hop];try rfl
  | some lo =>
   cases hi with
   | none =>
    match l,hl with
    | [a,b],_ =>
     refine run (gives_slice (plo:=some b) (phi:=none) (lo:=some (ρ lo)) (hi:=none) (show sliceP P t a (some b) none=some p from h) (hR 0 x a (by simp [Op.operands]) rfl) (hR 1 lo b (by simp [Op.operands]) rfl) trivial) ?_
     unfold execOp;rw [hop];try rfl
   | some hi =>
    match l,hl with
    | [a,b,c],_ =>
     refine run (gives_slice (plo:=some b) (phi:=some c) (lo:=some (ρ lo)) (hi:=some (ρ hi)) (show sliceP P t a (some b) (some c)=some p from h) (hR 0 x a (by simp [Op.operands]) rfl) (hR 1 lo b (by simp [Op.operands]) rfl) (hR 2 hi c (by simp [Op.operands]) rfl)) ?_
     unfold execOp;rw [hop];try rfl
 ·rename_i c
  split at ht
  ·rename_i x ty hc hl' hty
   cases ht
   match l,hl with
   | [a],_ =>
    have hx:=hR 0 x a (by simp [Op.operands,Call.operands,hc,hl']) rfl
    have hargs:c.args.map ρ = #[ρ x]:=by rw [← Array.toArray_toList (xs:=c.args.map ρ),Array.toList_map,hl'];rfl
    refine run (gives_len (P:=P) (X:=X) (w:=w) (ty:=oper.type) (ts:=c.argTypes) (show lenP P ty a=some p from h) hx hty) ?_
    rw [← hargs]
    unfold execOp;rw [hop];simp only [resolve,hc];rfl
   | [],hl=>simp [Op.operands,Call.operands,hc,hl'] at hl
   | _::_::_,hl=>simp [Op.operands,Call.operands,hc,hl'] at hl
  ·cases ht
 ·cases ht
theorem tag_len {t:Tag} {l:List PV} {p:PV} {o:Op} (ht:tagOf o=some t) (h:tagP P t l=some p):l.length=o.operands.toList.length:=by
 unfold tagOf at ht
 split at ht
 ·cases ht
  unfold tagP at h
  split at h<;>first|(rename_i he;cases he;done)|(simp [Op.operands];done)|(cases h;done)|skip
  all_goals (first|(rename_i he;cases he;simp [Op.operands])|(rename_i he _;cases he;simp [Op.operands]))
 ·cases ht
  unfold tagP at h
  split at h<;>first|(rename_i he;cases he;done)|(simp [Op.operands];done)|(cases h;done)|skip
 ·cases ht
  unfold tagP at h
  split at h<;>first|(rename_i he;cases he;done)|(simp [Op.operands];done)|(cases h;done)|skip
 ·cases ht
  unfold tagP at h
  split at h<;>first|(rename_i he;cases he;done)|(simp [Op.operands];done)|(cases h;done)|skip
 ·cases ht
  unfold tagP at h
  split at h<;>first|(rename_i he;cases he;done)|(simp [Op.operands];done)|(cases h;done)|skip
 ·rename_i t' x lo hi
  cases ht
  cases lo<;>cases hi<;>(unfold tagP at h;split at h<;>first|(rename_i he;cases he;done)|(simp [Op.operands];done)|(cases h;done)|skip)
 ·split at ht
  ·rename_i x ty hc hl' hty
   cases ht
   unfold tagP at h
   split at h<;>first|(rename_i he;cases he;done)|(simp [Op.operands,Call.operands,hc,hl'];done)|(cases h;done)|skip
  ·cases ht
 ·cases ht
theorem FactsOk.orc (hn:NuOk nu) {own:TypeId→Nat→Bool} {fs:List Fact} (h:FactsOk P nu fs):OrcOk P nu (fOrc own fs):=by
 refine { op:=fun o l p ho X w ρ oper hX hok hop hR=>?_,prim:=fun g args r ho=>?_,row:=fun g args e sz n cs ho=>?_,st:=fun g args s r s' ho=>?_,loop:=fun f fn body hb X0 w0 s0 hX b st ex st' hm ho=>?_,loopLen:=fun f rid st ex st' ho=>?_ }
 ·simp only [fOrc] at ho
  split at ho
  ·rename_i t ht
   obtain ⟨h1,h2⟩:=h.mem _ (fOp_mem _ _ _ _ ho)
   have hl:=tag_len ht h1
   rw [List.length_map] at hl
   subst hX
   have hl':(l.map (subD X.nu)).length=oper.op.operands.toList.length:=by rw [hop,List.length_map];exact hl
   obtain ⟨v,hv,hRv⟩:=gives_tag (ρ:=ρ) (oper:=oper) hok (by rw [hop];exact ht) h1 (fun j x q hx hq=>by
    obtain ⟨a,ha,rfl⟩:=map_get hq
    exact (hR j x a (by rw [← hop];exact hx) ha).subD hn.clean) hl'
   exact ⟨v,hv,R.unsubO hn hRv h2⟩
  ·cases ho
 ·obtain ⟨⟨hfn,hcall⟩,hone⟩:=h.mem _ (fPrim_mem _ _ _ _ ho)
  refine ⟨hfn,fun X w vs hX h1 h2 h3=>?_⟩
  subst hX
  refine (hcall X w vs (by simpa using h1) (fun j p hp=>?_) h3).mono ?_
  ·obtain ⟨q,hq,rfl⟩:=map_get hp
   exact (h2 j q hq).subD hn.clean
  ·rintro e w' ⟨v,X',he,hv,hp⟩
   have hnu:X'.nu=X.nu:=hp.le.nu.symm
   exact ⟨v,X',he,R.unsubO (by rw [hnu];exact hn) (by rw [hnu];exact hv) (by rw [hnu];exact hone),hp⟩
 ·obtain ⟨⟨hfn,hcall⟩,hfc⟩:=h.mem _ (fRow_mem _ _ _ _ _ _ _ ho)
  refine ⟨hfn,fun X w vs hX h1 h2 h3=>?_⟩
  subst hX
  refine (hcall X w vs (by simpa using h1) (fun j p hp=>?_) h3).mono ?_
  ·obtain ⟨q,hq,rfl⟩:=map_get hp
   exact (h2 j q hq).subD hn.clean
  ·rintro ex w' ⟨v,he,X',b,cap,us,a1,a2,a3,a4,a5,a6,a7,a8,a9,b1,b2,hp⟩
   have hnu:X'.nu=X.nu:=hp.le.nu.symm
   refine ⟨v,he,X',b,cap,us,a1,a2,a3,a4,a5,a6,a7,a8,by simpa using a9,fun j c hc=>?_,b2,hp⟩
   have hr:=b1 j (subD X.nu c) (by simp [hc])
   have hj:j < us.size:=by
    have hl:j < cs.length:=lt_of_get hc
    have h9:cs.length=n*sz:=by simpa using a9
    have:n*sz≤cap*sz:=Nat.mul_le_mul_right _ a3
    omega
   exact R.unsubC (by rw [hnu];exact hn) (by rw [hnu];exact hr) (b2 _ (Array.mem_of_getElem? (some_getD hj))) (by rw [hnu];exact List.all_eq_true.1 hfc c (List.mem_of_getElem? hc))
 ·obtain ⟨hs,hone⟩:=h.mem _ (fSt_mem _ _ _ _ _ _ ho)
  simp only [Bool.and_eq_true] at hone
  exact hs.told hn hone.1 hone.2
 ·obtain ⟨T,hf,hT⟩:=fLoop_mem _ _ _ _ _ _ ho
  obtain ⟨_,hr,hone⟩:=h.mem _ hf
  have hrun:=hr fn body hb b hm rfl
  simp only [Bool.and_eq_true] at hone
  intro X w a hrel
  have hnu:X.nu=nu:=hrel.acc.le.nu.symm.trans hX
  have h1:=relSt_sub (by rw [hnu];exact hn) (relSt_weak (s:=st.s) hrel (matchT_weak hT))
  rw [hnu] at h1
  refine wp_mono (hrun X0 w0 s0 X w a h1) ?_
  rintro e a' w' ⟨he,X',hr'⟩
  have hnu':X'.nu=nu:=hr'.acc.le.nu.symm.trans hX
  rw [← hnu'] at hr' hone
  exact ⟨he,X',relSt_unsub (by rw [hnu'];exact hn) hone.1 hone.2 hr'⟩
 ·obtain ⟨T,hf,_⟩:=fLoop_mem _ _ _ _ _ _ ho
  exact (h.mem _ hf).1
end
open Go Go.RowKit
section
variable {P:Program}
def loopsOf (P:Program) (f:FuncId) (rid:Nat):List Code:=match bodyOf P f with|some (_,body)=>(loopsIn body).filter fun b=>Nat.beq (firstId b) rid|none=>[]
def loopAt (P:Program) (f:FuncId) (rid:Nat):Code:=(loopsOf P f rid).headD .skip
def ntOf (P:Program) (f:FuncId):Nat:=match bodyOf P f with|some (fn,_)=>fn.ntmps|none=>0
def loneB (P:Program) (f:FuncId) (rid:Nat):Bool:=match loopsOf P f rid with | [b]=>codeOk (ntOf P f) b|_=>false
theorem lone_eq {f:FuncId} {rid:Nat} (h:loneB P f rid=true):(∃ fn body,bodyOf P f=some (fn,body)∧fn.ntmps=ntOf P f∧loopAt P f rid∈loopsIn body)∧codeOk (ntOf P f) (loopAt P f rid)=true ∧
  ∀ fn body,bodyOf P f=some (fn,body)→fn.ntmps=ntOf P f∧∀ b∈loopsIn body,firstId b=rid→b=loopAt P f rid:=by
 unfold loneB at h
 split at h
 ·rename_i b hb
  have e:loopAt P f rid=b:=by unfold loopAt;rw [hb];rfl
  rw [e]
  unfold loopsOf at hb
  split at hb
  ·rename_i fn body hf
   have hn:fn.ntmps=ntOf P f:=by unfold ntOf;rw [hf]
   have hm:b∈(loopsIn body).filter fun b=>Nat.beq (firstId b) rid:=by rw [hb];simp
   refine ⟨⟨fn,body,hf,hn,(List.mem_filter.1 hm).1⟩,h,fun fn' body' hf'=>?_⟩
   rw [hf] at hf'
   cases hf'
   refine ⟨hn,fun c hc hi=>?_⟩
   have:c∈(loopsIn body).filter fun b=>Nat.beq (firstId b) rid:=List.mem_filter.2 ⟨hc,by simpa using hi⟩
   rw [hb] at this
   simpa using this
  ·cases hb
 ·cases h
def Ex.same:Ex→Ex→Bool
 | .normal, .normal=>true
 | .exit a, .exit b=>Nat.beq a b
 | .goto a, .goto b=>Nat.beq a b
 | .ret, .ret=>true
 | _,_=>false
theorem Ex.same_eq {a b:Ex} (h:Ex.same a b=true):a=b:=by
 cases a<;>cases b<;>simp [Ex.same] at h
 ·rfl
 ·rw [h]
 ·rw [h]
 ·rfl
def runsB (o:Option (Ex × St)) (ex:Ex) (T:List (Nat × PV)) (s:List Res):Bool:=match o with|some (e,st)=>Ex.same e ex&&(sameS st.s s&&matchT st.T T)|none=>false
theorem RunsP.chk (hP:progOk P=true) {nu:Nat→PV} (hn:NuOk nu) {own:TypeId→Nat→Bool} {fs:List Fact} {k n m:Nat} {f:FuncId} {rid:Nat} (h1:loneB P f rid=true) {T T':List (Nat × PV)} {s s':List Res} {ex:Ex}
  (h:runsB (execN P (fOrc own fs) (callF P (fOrc own fs) k) ((fOrc own fs).loop f) n m (loopAt P f rid) ⟨T,s⟩) ex T' s'=true) (hf:FactsOk P nu fs)
  (hT:(pureT (subT nu T)&&oneT nu T)=true) (hs:(s.all (fnRes nu)&&(s.map (subRes nu)).all pureRes)=true) (hT':(pureT (subT nu T')&&(s'.map (subRes nu)).all pureRes)=true) :
  RunsP P (ntOf P f) (loopAt P f rid) (subT nu T) (s.map (subRes nu)) ex (subT nu T') (s'.map (subRes nu)):=by
 obtain ⟨⟨fn,body,hb,hN,hm⟩,hc,_⟩:=lone_eq h1
 simp only [Bool.and_eq_true] at hT hs hT'
 have hO:OrcOk P nu (fOrc own fs):=FactsOk.orc hn hf
 unfold runsB at h
 split at h
 ·rename_i e st hx
  simp only [Bool.and_eq_true] at h
  obtain ⟨he,hss,hmt⟩:=h
  have he:=Ex.same_eq he
  have hss:=sameS_eq hss
  subst he
  intro X0 w0 s0 X w a hr
  have hmix:P.follows .mixedOrders=true:=by
   unfold progOk at hP
   simp only [Bool.and_eq_true] at hP
   exact hP.2
  have hr1:=relSt_unsub (X0:=X0.setNu nu) (X:=X.setNu nu) hn hT.2 hs.1 (relSt_setNu nu hr hT.1 hs.2)
  refine wp_mono (execN_sound (X0:=X0.setNu nu) (nu:=nu) rfl hO.toOrcOk0 (callF_sound hP hO k) hmix (LB:=loopsIn body) (L:=(fOrc own fs).loop f) (by rw [← hN];exact hO.loop f fn body hb _ _ _ rfl) n m _ _ _ _ hx hc (fun x hx=>loopsIn_trans body _ hm x hx) _ w a hr1) ?_
  rintro e a' w' ⟨he,X',hr'⟩
  have hnu:X'.nu=nu:=hr'.acc.le.nu.symm
  have hr'':RelSt P (ntOf P f) (X0.setNu nu) w0 s0 X' w' ⟨T',s'⟩ a':=by
   rw [← hss]
   exact relSt_weak (T:=st.T) hr' (matchT_weak hmt)
  have hr2:=relSt_sub (by rw [hnu];exact hn) hr''
  rw [hnu] at hr2
  have hr3:=relSt_setNu X0.nu hr2 hT'.1 hT'.2
  rw [setNu_self] at hr3
  exact ⟨he,_,hr3⟩
 ·cases h
theorem fLoopOk {nu:Nat→PV} {f:FuncId} {rid:Nat} (h1:loneB P f rid=true) {T T':List (Nat × PV)} {s s':List Res} {ex:Ex} (hl:s.length≤s'.length)
  (h:RunsR P (ntOf P f) (loopAt P f rid) (subT nu T) (s.map (subRes nu)) ex (subT nu T') (s'.map (subRes nu))) (ho:(oneT nu T'&&s'.all (fnRes nu))=true):FactOk P nu (.loop f rid T s ex T' s'):=by
 refine ⟨hl,fun fn body hb b hm hi=>?_,ho⟩
 obtain ⟨hN,he⟩:=(lone_eq h1).2.2 fn body hb
 rw [he b hm hi,hN]
 exact h.loop
end
open Go Go.RowKit
def nuFl (l m:List PV) (j:Nat):PV:=match Nat.ble 1000 j with
 | true=>m.getD (j - 1000) (.bool false)
 | false=>l.getD j (.bool false)
theorem nuFl_ok {l m:List PV} (h:∀ p∈l,p.clean=true∧p.pure=true) (hm:∀ p∈m,p.flatA=true):NuOk (nuFl l m):=by
 have h1:∀ j,(l.getD j (.bool false)).clean=true∧(l.getD j (.bool false)).pure=true:=fun j=>by
  rw [List.getD_eq_getElem?_getD]
  cases hj:l[j]? with
  | none=>exact ⟨rfl,rfl⟩
  | some p=>exact h p (List.mem_of_getElem? hj)
 have h2:∀ j,(m.getD j (.bool false)).flatA=true:=fun j=>by
  rw [List.getD_eq_getElem?_getD]
  cases hj:m[j]? with
  | none=>rfl
  | some p=>exact hm p (List.mem_of_getElem? hj)
 have h3:∀ p:PV,p.flatA=true→p.clean=true∧p.pure=true:=fun p hp=>by cases p<;>first|exact ⟨rfl,rfl⟩|cases hp
 have h4:∀ j,(nuFl l m j).clean=true∧(nuFl l m j).pure=true:=fun j=>by
  unfold nuFl
  split
  ·exact h3 _ (h2 _)
  ·exact h1 _
 refine ⟨fun j=>(h4 j).1,fun j=>(h4 j).2,fun j hj=>?_⟩
 unfold nuFl
 rw [hj]
 exact h2 _
@[simp] theorem nuFl_0 (l m:List PV):nuFl l m 0=l.getD 0 (.bool false):=rfl
@[simp] theorem nuFl_1 (l m:List PV):nuFl l m 1=l.getD 1 (.bool false):=rfl
@[simp] theorem nuFl_2 (l m:List PV):nuFl l m 2=l.getD 2 (.bool false):=rfl
@[simp] theorem nuFl_3 (l m:List PV):nuFl l m 3=l.getD 3 (.bool false):=rfl
@[simp] theorem nuFl_4 (l m:List PV):nuFl l m 4=l.getD 4 (.bool false):=rfl
@[simp] theorem nuFl_5 (l m:List PV):nuFl l m 5=l.getD 5 (.bool false):=rfl
@[simp] theorem nuFl_6 (l m:List PV):nuFl l m 6=l.getD 6 (.bool false):=rfl
@[simp] theorem nuFl_7 (l m:List PV):nuFl l m 7=l.getD 7 (.bool false):=rfl
@[simp] theorem nuFl_8 (l m:List PV):nuFl l m 8=l.getD 8 (.bool false):=rfl
@[simp] theorem nuFl_9 (l m:List PV):nuFl l m 9=l.getD 9 (.bool false):=rfl
@[simp] theorem nuFl_10 (l m:List PV):nuFl l m 10=l.getD 10 (.bool false):=rfl
@[simp] theorem nuFl_11 (l m:List PV):nuFl l m 11=l.getD 11 (.bool false):=rfl
@[simp] theorem nuFl_12 (l m:List PV):nuFl l m 12=l.getD 12 (.bool false):=rfl
abbrev nuL (l:List PV):Nat→PV:=nuFl l []
theorem nuL_ok {l:List PV} (h:∀ p∈l,p.clean=true∧p.pure=true):NuOk (nuL l):=nuFl_ok h (fun _ h=>by simp at h)
def wthn (a n:Int):Int:=if a.tmod n < 0 then IntKind.i64.wrap (a.tmod n+n) else a.tmod n
theorem TabOk.mk3 {P : Program} {nu : Nat → PV} {ps : List (FuncId × List PV × PV)} {bs : List (BinOp × PV × PV × PV)} {ow : TypeId → Nat → Bool} {es : List (BinOp × TypeId × PV × PV × PV)}
    (h1 : ∀ g args r, (g, args, r) ∈ ps → Ev P g (args.map (sub1 nu)) (sub2 nu r) ∧ (∀ p ∈ args, (sub1 nu p).pure = true) ∧ (sub2 nu r).pure = true ∧ r.shut2 = true ∧ (∀ j, r = .atom j → (nu j).one = true) ∧ (∀ vs, r = .tup vs → ∀ j, PV.atom j ∈ vs → (nu j).one = true))
    (h2 : ∀ op x y r, (op, x, y, r) ∈ bs → BinOk nu op x y r) (h3 : ∀ op ty x y r, (op, ty, x, y, r) ∈ es → binP P op ty (sub1 nu x) (sub1 nu y) = some (sub0 nu r) ∧ (sub0 nu r).one = true) : TabOk P nu ⟨ps, bs, ow, es, [], [], []⟩ :=
  { prims := h1, bins := h2, eqs := h3 }
theorem TabOk.bin {P : Program} {nu : Nat → PV} {ps : List (FuncId × List PV × PV)} {bs : List (BinOp × PV × PV × PV)} {ow : TypeId → Nat → Bool} {es : List (BinOp × TypeId × PV × PV × PV)} {rs : List (FuncId × List PV × TypeId × Nat × Nat × List PV)} {ls : List (TypeId × PV × PV)} {xs : List (TypeId × PV × Int × PV)} {op : BinOp} {x y r : PV} (h : TabOk P nu ⟨ps, bs, ow, es, rs, ls, xs⟩) (hb : BinOk nu op x y r) : TabOk P nu ⟨ps, (op, x, y, r) :: bs, ow, es, rs, ls, xs⟩ :=
  { prims := h.prims, eqs := h.eqs, rows := h.rows, lens := h.lens, ixs := h.ixs, bins := fun op' x' y' r' hm => by
      rcases List.mem_cons.1 hm with e | hm
      · cases e; exact hb
      · exact h.bins _ _ _ _ hm }
theorem TabOk.len {P : Program} {nu : Nat → PV} {ps : List (FuncId × List PV × PV)} {bs : List (BinOp × PV × PV × PV)} {ow : TypeId → Nat → Bool} {es : List (BinOp × TypeId × PV × PV × PV)} {rs : List (FuncId × List PV × TypeId × Nat × Nat × List PV)} {ls : List (TypeId × PV × PV)} {xs : List (TypeId × PV × Int × PV)} {ty : TypeId} {x r : PV} (h : TabOk P nu ⟨ps, bs, ow, es, rs, ls, xs⟩) (hb : lenP P ty (sub0 nu x) = some (sub0 nu r)) (h1 : (sub0 nu r).one = true) : TabOk P nu ⟨ps, bs, ow, es, rs, (ty, x, r) :: ls, xs⟩ :=
  { prims := h.prims, eqs := h.eqs, rows := h.rows, bins := h.bins, ixs := h.ixs, lens := fun ty' x' r' hm => by
      rcases List.mem_cons.1 hm with e | hm
      · cases e; exact ⟨hb, h1⟩
      · exact h.lens _ _ _ hm }
theorem TabOk.ix {P : Program} {nu : Nat → PV} {ps : List (FuncId × List PV × PV)} {bs : List (BinOp × PV × PV × PV)} {ow : TypeId → Nat → Bool} {es : List (BinOp × TypeId × PV × PV × PV)} {rs : List (FuncId × List PV × TypeId × Nat × Nat × List PV)} {ls : List (TypeId × PV × PV)} {xs : List (TypeId × PV × Int × PV)} {ty : TypeId} {x c : PV} {i : Int} (h : TabOk P nu ⟨ps, bs, ow, es, rs, ls, xs⟩) (hb : indexAddrP P ty (sub0 nu x) (.int .i64 i) = some (.ref [sub0 nu c])) (h1 : (sub0 nu c).one = true) (h2 : c.clean = true) : TabOk P nu ⟨ps, bs, ow, es, rs, ls, (ty, x, i, c) :: xs⟩ :=
  { prims := h.prims, eqs := h.eqs, rows := h.rows, bins := h.bins, lens := h.lens, ixs := fun ty' x' i' c' hm => by
      rcases List.mem_cons.1 hm with e | hm
      · cases e; exact ⟨hb, h1, h2⟩
      · exact h.ixs _ _ _ _ hm }
theorem TabOk.more {P : Program} {nu : Nat → PV} {ps : List (FuncId × List PV × PV)} {bs : List (BinOp × PV × PV × PV)} {ow : TypeId → Nat → Bool} {es : List (BinOp × TypeId × PV × PV × PV)} {rs : List (FuncId × List PV × TypeId × Nat × Nat × List PV)} {ls : List (TypeId × PV × PV)} {xs : List (TypeId × PV × Int × PV)} {cs : List (BinOp × PV × PV × PV)} (h : TabOk P nu ⟨ps, bs, ow, es, rs, ls, xs⟩) (hc : ∀ t ∈ cs, BinOk nu t.1 t.2.1 t.2.2.1 t.2.2.2) : TabOk P nu ⟨ps, cs ++ bs, ow, es, rs, ls, xs⟩ :=
  { prims := h.prims, eqs := h.eqs, rows := h.rows, lens := h.lens, ixs := h.ixs, bins := fun op x y r hm => by
      rcases List.mem_append.1 hm with hm | hm
      · exact hc _ hm
      · exact h.bins _ _ _ _ hm }
theorem TabOk.prim {P : Program} {nu : Nat → PV} {ps : List (FuncId × List PV × PV)} {bs : List (BinOp × PV × PV × PV)} {ow : TypeId → Nat → Bool} {es : List (BinOp × TypeId × PV × PV × PV)} {rs : List (FuncId × List PV × TypeId × Nat × Nat × List PV)} {ls : List (TypeId × PV × PV)} {xs : List (TypeId × PV × Int × PV)} {g : FuncId} {args : List PV} {r : PV} (h : TabOk P nu ⟨ps, bs, ow, es, rs, ls, xs⟩) (hg : Ev P g (args.map (sub1 nu)) (sub2 nu r))
    (h1 : PV.pureL (args.map (sub1 nu)) = true) (h2 : (sub2 nu r).pure = true) (h3 : r.shut2 = true) (h4 : match r with | .atom j => (nu j).one = true | .tup vs => vs.all (fun | .atom j => (nu j).one | _ => true) = true | _ => True) : TabOk P nu ⟨(g, args, r) :: ps, bs, ow, es, rs, ls, xs⟩ :=
  { bins := h.bins, eqs := h.eqs, rows := h.rows, lens := h.lens, ixs := h.ixs, prims := fun g' args' r' hm => by
      rcases List.mem_cons.1 hm with e | hm
      · cases e
        refine ⟨hg, fun p hp => pureL_mem h1 _ (List.mem_map_of_mem hp), h2, h3, fun j hj => ?_, fun vs hvs j hj => ?_⟩
        · subst hj; exact h4
        · subst hvs
          have := List.all_eq_true.1 h4 _ hj
          exact this
      · exact h.prims _ _ _ hm }
theorem BinOk.int {nu:Nat→PV} {op:BinOp} {x y r:PV} {k:IntKind} {a b:Int} (h1:op≠.shl) (h2:op≠.shr) (hx:sub0 nu x = .int k a) (hy:sub0 nu y = .int k b) (h:intP op k a b=some (sub0 nu r)):BinOk nu op x y r :=
 .inl ⟨k,a,b,h1,h2,hx,hy,h⟩
open Go Go.RowKit
def okR (e:PV):Option (PV × List Res)→Bool
 | some (p,[])=>PV.same p e
 | _=>false
theorem okR_eq {e:PV} {o:Option (PV × List Res)} (h:okR e o=true):o=some (e,[]):=by
 unfold okR at h
 split at h
 ·rw [same_eq _ _ h]
 ·cases h
def vI (p:PV):PV:=.agg [.int .i64 2,p, .int .i64 0, .str []]
def vZ:PV:=.agg [.int .i64 0, .int .i64 0, .int .i64 0, .str []]
def condR (b:Bool) (p:PV):PV:=match b with
 | true=>.tup [vI p, .int .i64 0]
 | false=>.tup [vZ, .int .i64 10]
def bl (f:Bool→Bool):Bool:=f true&&f false
theorem bl_all {f:Bool→Bool} (h:bl f=true) (b:Bool):f b=true:=by
 unfold bl at h
 rw [Bool.and_eq_true] at h
 cases b<;>simp [h]
theorem sub2_cond (nu:Nat→PV) (b:Bool) (p:PV):sub2 nu (condR b p)=condR b (sub0 nu p):=by cases b<;>rfl
theorem cond_pure (b:Bool) (c:Int):(condR b (.int .i64 c)).pure=true:=by cases b<;>rfl
theorem cond_shut (b:Bool) (c:Int):(condR b (.int .i64 c)).shut2=true:=by cases b<;>rfl
theorem Ev.bins {P:Program} (hP:progOk P=true) {l:List PV} (hl:∀ p∈l,p.clean=true∧p.pure=true) {bs:List (BinOp × PV × PV × PV)} (hb:∀ t∈bs,BinOk (nuL l) t.1 t.2.1 t.2.2.1 t.2.2.2) {k:Nat} {g:FuncId} {args:List PV} {ok:Bool} {p:PV} {c:Int}
  (h:okR (condR ok p) (callF P (Tab.orc { bins:=bs }) k g args [])=true) (hp:sub0 (nuL l) p = .int .i64 c) (hargs:∀ p∈args,(sub1 (nuL l) p).pure=true∧p.shut=true∧∀ i,p = .atom i→(nuL l i).one=true) :
  Ev P g (args.map (sub1 (nuL l))) (condR ok (.int .i64 c)):=by
 have hnu:NuOk (nuL l):=nuL_ok hl
 have hT:TabOk P (nuL l) { bins:=bs }:=.mk3 (fun _ _ _ h=>by simp at h) (fun _ _ _ _ hm=>hb _ hm) (fun _ _ _ _ _ h=>by simp at h)
 have:=Ev.of hP hnu (TabOk.orc hnu hT) (okR_eq h) hargs (by rw [sub2_cond,hp];exact cond_pure ok c) (by rw [sub2_cond,hp];exact cond_shut ok c)
 rw [sub2_cond,hp] at this
 exact this
open Go Go.RowKit
open Go.ChangeShapes Go.WideShapes
def worldMap (W:World):Map:=⟨fun b o=>W.cell? ⟨b,o,none⟩,fun _=>none,fun _ _=>none,fun _=>.any⟩
theorem worldMap_ok (W:World) (h:GOk (worldMap W).M W):(worldMap W).Ok W:=⟨fun _ _ _ h=>h,h⟩
open Go Go.RowKit
theorem Ev.ofCalls {P:Program} {g:FuncId} {args:List PV} {r:PV} (hfn:∃ fn,P.funcs[g]? = some fn∧(fn.name == "runtime.NumGoroutine")=false∧fn.body.isSome=true)
  (h:∀ X w (vs:Array Value),vs.size=args.length→(∀ (j:Nat) p,args[j]? = some p→R X p (vs.getD j Go.undef))→X.Ok w→Calls P g vs w fun e w'=>(∃ v,e = .returned v∧R X r v)∧Below w.heap.size w w'):Ev P g args r:=by
 refine ⟨hfn,fun X w vs h1 h2 h3=>(h X w vs h1 h2 h3).mono ?_⟩
 rintro e w' ⟨⟨v,he,hv⟩,bel⟩
 refine ⟨v,X,he,hv,⟨Map.Le.refl X,⟨fun b o u hu=>?_,h3.2.keep (fun _ _ _ h=>h) (fun g _ hg=>bel.block g hg)⟩,bel.size,bel.os,bel.tape,bel.output,fun k hk _=>bel.block k hk,fun b o v hv=>.inl hv,fun _ _=>⟨rfl,rfl⟩,fun _ hw=>hw.elim,fun _ _ hw=>hw.elim,fun _ _ _ hw=>hw.elim⟩⟩
 have hc:=h3.1 b o u hu
 have hb:b < w.heap.size:=by
  unfold World.cell? at hc
  split at hc
  ·rename_i hq;exact (Array.getElem?_eq_some_iff.1 hq).1
  ·cases hc
 exact (bel.cell (p:=⟨b,o,none⟩) hb).trans hc
theorem vs_one {X:Map} {vs:Array Value} {a:PV} (h1:vs.size=[a].length) (h2:∀ (j:Nat) p,[a][j]? = some p→R X p (vs.getD j Go.undef)):∃ u,vs = #[u]∧R X a u:=by
 obtain ⟨l⟩:=vs
 match l,h1 with
 | [u],_=>exact ⟨u,rfl,h2 0 a rfl⟩
theorem vs_two {X:Map} {vs:Array Value} {a b:PV} (h1:vs.size=[a,b].length) (h2:∀ (j:Nat) p,[a,b][j]? = some p→R X p (vs.getD j Go.undef)):∃ u v,vs = #[u,v]∧R X a u∧R X b v:=by
 obtain ⟨l⟩:=vs
 match l,h1 with
 | [u,v],_=>exact ⟨u,v,rfl,h2 0 a rfl,h2 1 b rfl⟩
theorem vs_three {X:Map} {vs:Array Value} {a b c:PV} (h1:vs.size=[a,b,c].length) (h2:∀ (j:Nat) p,[a,b,c][j]? = some p→R X p (vs.getD j Go.undef)):∃ u v t,vs = #[u,v,t]∧R X a u∧R X b v∧R X c t:=by
 obtain ⟨l⟩:=vs
 match l,h1 with
 | [u,v,t],_=>exact ⟨u,v,t,rfl,h2 0 a rfl,h2 1 b rfl,h2 2 c rfl⟩
theorem R.int_inv {X:Map} {k:IntKind} {n:Int} {v:Value} (h:R X (.int k n) v):v = .int k n:=by cases h;rfl
theorem R.bool_inv {X:Map} {b:Bool} {v:Value} (h:R X (.bool b) v):v = .bool b:=by cases h;rfl
theorem R.str_inv {X:Map} {l:List UInt8} {v:Value} (h:R X (.str l) v):v = .string ⟨l.toArray⟩:=by cases h;rfl
theorem Ev.facts {P:Program} (hP:progOk P=true) {nu:Nat→PV} (hn:NuOk nu) {own:TypeId→Nat→Bool} {fs:List Fact} {k:Nat} {g:FuncId} {args:List PV} {r:PV}
  (h:callF P (fOrc own fs) k g args []=some (r,[])) (hf:FactsOk P nu fs) (ha:args.all (fun p=>argB nu p&&p.shut)=true) (hr:((subD nu r).pure&&(subD nu r).shut2)=true):Ev P g (args.map (subD nu)) (subD nu r):=by
 simp only [Bool.and_eq_true] at hr
 refine Ev.ofD hP hn (FactsOk.orc hn hf) h (fun p hp=>?_) hr.1 hr.2
 have:=List.all_eq_true.1 ha p hp
 simpa using this
theorem EvS.facts {P:Program} (hP:progOk P=true) {nu:Nat→PV} (hn:NuOk nu) {own:TypeId→Nat→Bool} {fs:List Fact} {k:Nat} {g:FuncId} {args:List PV} {s s':List Res} {r:PV}
  (h:callF P (fOrc own fs) k g args s=some (r,s')) (hf:FactsOk P nu fs) (ha:args.all (argB nu)=true) (hs:((s.map (subRes nu)).all pureRes&&s.all (fnRes nu))=true) (hr:((subD nu r).pure&&(s'.map (subRes nu)).all pureRes)=true):EvS P g (args.map (subD nu)) (s.map (subRes nu)) (subD nu r) (s'.map (subRes nu)):=by
 simp only [Bool.and_eq_true] at hr hs
 exact EvS.of hP hn (FactsOk.orc hn hf) h ha hs.1 hs.2 hr.1 hr.2
theorem nuL_okB {l:List PV} (h:l.all (fun p=>p.clean&&p.pure)=true):NuOk (nuL l):=nuL_ok fun p hp=>by
 have:=List.all_eq_true.1 h p hp
 simpa using this
theorem fInt {P:Program} {nu:Nat→PV} {op:BinOp} {ty:TypeId} {x y r:PV} {a b c:Int} (hx:subD nu x = .int .i64 a) (hy:subD nu y = .int .i64 b) (hr:subD nu r = .int .i64 c) (h:intP op .i64 a b=some (.int .i64 c)) (hs:op≠.shl∧op≠.shr) (h1:oneB nu r=true):FactOk P nu (.op (.bin op ty) [x,y] r):=by
 refine ⟨?_,h1⟩
 show binP P op ty (subD nu x) (subD nu y)=some (subD nu r)
 rw [hx,hy,hr]
 cases op<;>first|exact h|exact absurd rfl hs.1|exact absurd rfl hs.2
theorem fCmp {P:Program} {nu:Nat→PV} {op:BinOp} {ty:TypeId} {x y r:PV} {a b:Int} {c:Bool} (hx:subD nu x = .int .i64 a) (hy:subD nu y = .int .i64 b) (hr:subD nu r = .bool c) (h:intP op .i64 a b=some (.bool c)) (hs:op≠.shl∧op≠.shr) (h1:oneB nu r=true):FactOk P nu (.op (.bin op ty) [x,y] r):=by
 refine ⟨?_,h1⟩
 show binP P op ty (subD nu x) (subD nu y)=some (subD nu r)
 rw [hx,hy,hr]
 cases op<;>first|exact h|exact absurd rfl hs.1|exact absurd rfl hs.2
noncomputable abbrev PG:Program:=Go.Proofs.Tryz.prog
abbrev Gi:Nat:=7
abbrev Gn:Nat:=13
abbrev Bt:Nat:=16
abbrev f_l3_within:Nat:=20
abbrev Aq:Nat:=23
abbrev Dp:Nat:=24
abbrev A1:Nat:=26
abbrev A4:Nat:=27
abbrev Ik:Nat:=34
abbrev Ia:Nat:=35
abbrev H9:Nat:=37
abbrev Ep:Nat:=50
abbrev Dn:Nat:=51
abbrev F8:Nat:=52
abbrev Ih:Nat:=53
abbrev Gk:Nat:=54
abbrev C0:Nat:=57
abbrev C2:Nat:=59
abbrev Ib:Nat:=61
abbrev Ij:Nat:=62
abbrev Gq:Nat:=63
abbrev Ie:Nat:=64
abbrev Eo:Nat:=66
abbrev D7:Nat:=76
abbrev F9:Nat:=77
abbrev Ge:Nat:=78
abbrev Bh:Nat:=80
abbrev Bz:Nat:=83
abbrev Gg:Nat:=84
abbrev Lr:Nat:=85
abbrev Lq:Nat:=86
abbrev Gf:Nat:=87
abbrev F7:Nat:=89
abbrev A2:Nat:=101
abbrev Es:Nat:=102
abbrev D8:Nat:=104
abbrev Ig:Nat:=105
abbrev Br:Nat:=106
abbrev Eq:Nat:=107
abbrev Ix:Nat:=108
abbrev Et:Nat:=109
abbrev Ax:Nat:=113
abbrev M8:Nat:=127
abbrev L1:Nat:=130
abbrev Gp:Nat:=132
abbrev Gh:Nat:=139
abbrev Em:Nat:=140
abbrev En:Nat:=141
abbrev Dl:Nat:=160
abbrev Dm:Nat:=164
abbrev ty_int:Nat:=3
abbrev ty_uint8:Nat:=5
abbrev ty_string:Nat:=9
abbrev ty_sl_api_Col:Nat:=26
abbrev ty_sl_uint8:Nat:=62
abbrev ty_api_Col:Nat:=101
open Go Go.RowKit
open Go.ChangeShapes Go.WideShapes
theorem ret_laid {H:Type} {enc:TypeId × Value→H} {a:Assume} {C:Checked} {os:Os} {f:FuncId} {fn:Func} {s:ChangeSpec} {conds:List PathCond} {apart fresh handsOn again:Bool} {X:World→Array Value→Prop}
  (hX:∀ (w w':World) (args:Array Value),w.heap=w'.heap→X w args→X w' args)
  (own:ownKnob C.prog.godebug=none) (started:os.Started) (noInit:C.prog.inits.idxOf? f=none) (hfn:C.prog.funcs[f]? = some fn)
  (witness:∃ (w:World) (tape:Tape) (i:Input),w.os=os∧(w.forCall tape i).Shaped C.prog∧i.vars=[]∧Input.okWide C.prog (w.forCall tape i) .any w.heap.size f i ∧
   ((s.pre enc C.prog fn conds apart (w.forCall tape i).memory i.args∧X (w.forCall tape i).memory i.args)∧sizedMet enc C.prog fn (OpenSpec.ofChange s) apart (w.forCall tape i).memory i.args)∧a.holds C.prog (lone (Frame.enter C.prog f i.args .normal) [] (w.forCall tape i)))
  (contract:∀ (W:World) (base:Nat) (args:Array Value) (ds gs:List (DataW H)) (before:List MemPlace),
   (∀ (j:Nat) t v,fn.params[j]? = some t→args[j]? = some v→Value.okWide C.prog W .any base t v) →
   DataW.Whole enc C.prog fn.params.toList s.vars apart W args.toList ds gs before →
   conds.all (PathCond.test C.prog ⟨fn.params.toList,ds,s.plain.varTypes C.prog,gs⟩)=true →
   (DataW.weightsEach C.prog (fn.params.toList++s.plain.varTypes C.prog) (ds++gs)).all (· ≤ reachBytes)=true→X W args→W.ShapedOpen C.prog →
   a.holds C.prog (lone (Frame.enter C.prog f args .normal) [] W) →
   Calls C.prog f args W fun e W'=>∃ v,e = .returned v∧s.post enc C.prog fn apart fresh handsOn again W args v W') :
  ReturnsInHanded a C os f .any (fun w args=>(s.pre enc C.prog fn conds apart w args∧X w args)∧sizedMet enc C.prog fn (OpenSpec.ofChange s) apart w args) (s.post enc C.prog fn apart fresh handsOn again):=by
 refine returnsInHanded_of_calls own started noInit witness ?_
 intro w tape i _ hsh _ hok hpre hholds
 obtain ⟨_,_,_,fn',hfn',_,_,_,_,hval⟩:=hok
 have e:fn'=fn:=Option.some.inj (hfn'.symm.trans hfn)
 subst e
 obtain ⟨⟨⟨ds,gs,before,hw,hc⟩,hx⟩,hz⟩:=hpre
 have hw':=DataW.Whole.of_heap (w':=w.forCall tape i) (by rfl) hw
 refine (contract (w.forCall tape i) w.heap.size i.args ds gs before hval hw' hc (hz.weights hw) (hX _ _ _ (by rfl) hx) hsh hholds).mono fun e W' ⟨v,he,hp⟩=>?_
 subst he
 exact ChangeSpec.post_blind hp
theorem G5 {W:World} {g:Nat} {arr:Array Value} {e:TypeId} {fr:Nat × Nat} (h:W.heap[g]? = some (.cells arr e fr)):∀ (j:Nat) v,arr[j]? = some v→(worldMap W).M g j=some v:=fun j v hv=>by
 show W.cell? ⟨g,j,none⟩=some v
 simp [World.cell?,h,hv]
theorem N1 {P:Program} {W:World} {n:String} {g:Nat} {cs:Array Value} (hg:P.globalNamed n=some g) (h:W.var? P n=some cs):∃ e fr,W.heap[g]? = some (.cells cs e fr):=by
 unfold World.var? at h
 rw [hg] at h
 simp only [Option.bind_some] at h
 split at h
 ·rename_i c e fr hh
  cases h
  exact ⟨e,fr,hh⟩
 ·cases h
theorem Mc {W:World} (h:W.ShapedOpen PG):∃ e fr m,W.heap[1]? = some (.cells #[.int .i64 m] e fr):=by
 have h0:((begin PG (fun _ _=>0) default).world.heap[1]?).bind Obj.row? = some (#[.int .i64 0],3):=by kernel_rfl
 obtain ⟨cs,hh,hs,_⟩:=h.1 1 #[.int .i64 0] 3 (of_decide_eq_true (by kernel_rfl)) h0
 obtain ⟨m,hm⟩:=Go.Proofs.cell_of_shapedOpen_int (P:=PG) (zero:=#[.int .i64 0]) (t:=3) h (of_decide_eq_true (by kernel_rfl)) h0 rfl (by kernel_rfl) (by kernel_rfl) (show PG.underlying 3=some (.int .i64) by kernel_rfl)
 obtain ⟨l⟩:=cs
 match l,hs with
 | [u],_ =>
  simp [World.cell?,hh] at hm
  subst hm
  exact ⟨_,_,m,hh⟩
theorem Jk {W:World} {name:String} {k:IntKind} {zs:List Int} {g:Nat} {t e:TypeId} {n:Nat} (hg:PG.globalNamed name=some g) (hty:(PG.globals[g]?).map (·.type)=some t) (ht:PG.underlying t=some (.array n e)) (he:PG.underlying e=some (.int k)) (hce:PG.cellsOf e=1) (hct:PG.cellsOf t=n)
  (h:Lib.VarReads PG W name (Lib.tabData k zs)):∃ e fr,W.heap[g]? = some (.cells (zs.map fun z=>Value.int k z).toArray e fr):=by
 obtain ⟨g',t',cs,fuel,p,hg',ht',hvar,hd⟩:=h
 obtain rfl:=Option.some.inj (hg.symm.trans hg')
 obtain rfl:=Option.some.inj (hty.symm.trans ht')
 obtain ⟨e',fr,hh⟩:=N1 hg hvar
 have hcs:=Lib.cells_of_tab ht he hce hct hd
 obtain ⟨l⟩:=cs
 dsimp only at hcs
 subst hcs
 exact ⟨e',fr,hh⟩
theorem gok_row {W:World} {laid:List (String × DataW Unit)} (hp:(laid.all fun x=>x.2.handleName?.isNone)=true) (hL:laidMetH PG laid W) (hsh:W.ShapedOpen PG)
  (m1:("internal/strconv.uint64pow10", Lib.tabData .u64 Lib.pow10Tab)∈laid) (m2:("strings.asciiSpace", Lib.tabData .u8 Lib.asciiSpaceTab)∈laid):GOk (worldMap W).M W:=by
 rw [MakeChecks.laidMetH_plain _ _ _ hp] at hL
 obtain ⟨e0,f0,h0⟩:=Jk (g:=0) (t:=167) (e:=143) (n:=20) (by kernel_rfl) (by kernel_rfl) (by kernel_rfl) (by kernel_rfl) (by kernel_rfl) (by kernel_rfl) (Lib.laidMet.reads hL m1)
 obtain ⟨e4,f4,h4⟩:=Jk (g:=4) (t:=173) (e:=5) (n:=256) (by kernel_rfl) (by kernel_rfl) (by kernel_rfl) (by kernel_rfl) (by kernel_rfl) (by kernel_rfl) (Lib.laidMet.reads hL m2)
 obtain ⟨e1,f1,m,h1⟩:=Mc hsh
 intro g hg
 match g,hg with
 | 0,_=>exact ⟨_,_,_,h0,by rw [List.size_toArray,List.length_map];exact of_decide_eq_true (by kernel_rfl),G5 h0,rfl⟩
 | 1,_=>exact ⟨_,_,_,h1,Nat.one_pos,G5 h1,m,rfl⟩
 | 4,_=>exact ⟨_,_,_,h4,by rw [List.size_toArray,List.length_map];exact of_decide_eq_true (by kernel_rfl),G5 h4,rfl⟩
open Go Go.RowKit
def noOwn (_:TypeId) (_:Nat):Bool:=false
theorem prog_ok:progOk PG=true:=by kernel_rfl
def bs (s:String):List UInt8:=s.toList.map fun c=>UInt8.ofNat c.toNat
def Du:List (List UInt8):=["create", "table", "drop", "alter", "add", "foreign", "key", "references", "primary", "unique", "check", "not", "null", "insert", "into", "values", "update", "set", "where", "delete", "from", "select", "count", "true", "false", "and", "or", "is", "bool", "int", "dec", "text", "bytes"].map bs
def Ds:List (List UInt8):=[[60,62],[60,61],[40],[41],[44],[59],[61],[60],[43],[45],[42]]
def Db (l:List (List UInt8)):PV:=.slice 1 (l.map .str)
theorem Pn:okR (Db Du) (callF PG noOrc 400 Gp [] [])=true:=by kernel_rfl
theorem Oc:okR (Db Ds) (callF PG noOrc 100 Et [] [])=true:=by kernel_rfl
theorem Jq:Ev PG Gp [] (Db Du):=Ev.ofD (nu:=nuL []) prog_ok (nuL_okB rfl) (noOrc_ok PG _) (okR_eq Pn) (fun p hp=>by simp at hp) rfl rfl
theorem G1:Ev PG Et [] (Db Ds):=Ev.ofD (nu:=nuL []) prog_ok (nuL_okB rfl) (noOrc_ok PG _) (okR_eq Oc) (fun p hp=>by simp at hp) rfl rfl
def kF:List Fact:=[.prim Gp [] (Db Du), .prim Et [] (Db Ds)]
end Go.Proofs.YtdlkibeljkapeaaGreatDoor.Den
namespace Go.Proofs
open Go.Shelf
def Tryz.laysM171_ren : Go.Shelf.Ren := ⟨fun | 171 => 50 | 243 => 75 | 246 => 90 | 283 => 115 | 284 => 116 | 285 => 117 | 286 => 118 | 129 => 144 | 317 => 143 | 318 => 145 | 319 => 146 | 320 => 147 | 337 => 168 | 338 => 169 | n => n, fun | 3 => 3 | 9 => 9 | 2 => 2 | 4 => 4 | 171 => 142 | 0 => 0 | 53 => 143 | 37 => 62 | 5 => 5 | 173 => 146 | 212 => 167 | 51 => 148 | 20 => 20 | 213 => 168 | 46 => 95 | 232 => 196 | 233 => 197 | n => n, fun | 17 => 0 | 18 => 6 | 19 => 7 | n => n⟩
theorem Tryz.laysM171 : Go.Proofs.LaysM.n171 Tryz.prog Tryz.laysM171_ren := {
  mixed := by kernel_rfl
  f129 := Tryz.func144.trans (congrArg some (by kernel_rfl))
  f171 := Tryz.func50.trans (congrArg some (by kernel_rfl))
  f243 := Tryz.func75.trans (congrArg some (by kernel_rfl))
  f246 := Tryz.func90.trans (congrArg some (by kernel_rfl))
  f283 := Tryz.func115.trans (congrArg some (by kernel_rfl))
  f284 := Tryz.func116.trans (congrArg some (by kernel_rfl))
  f285 := Tryz.func117.trans (congrArg some (by kernel_rfl))
  f286 := Tryz.func118.trans (congrArg some (by kernel_rfl))
  f317 := Tryz.func143.trans (congrArg some (by kernel_rfl))
  f318 := Tryz.func145.trans (congrArg some (by kernel_rfl))
  f319 := Tryz.func146.trans (congrArg some (by kernel_rfl))
  f320 := Tryz.func147.trans (congrArg some (by kernel_rfl))
  f337 := Tryz.func168.trans (congrArg some (by kernel_rfl))
  f338 := Tryz.func169.trans (congrArg some (by kernel_rfl))
  t0 := Tryz.underlying0
  a0 := Tryz.isAgg0
  z0 := Tryz.sizeOf0
  v0 := Tryz.zeroValue0
  t2 := Tryz.underlying2
  a2 := Tryz.isAgg2
  z2 := Tryz.sizeOf2
  v2 := Tryz.zeroValue2
  t3 := Tryz.underlying3
  a3 := Tryz.isAgg3
  z3 := Tryz.sizeOf3
  v3 := Tryz.zeroValue3
  t4 := Tryz.underlying4
  a4 := Tryz.isAgg4
  z4 := Tryz.sizeOf4
  v4 := Tryz.zeroValue4
  t5 := Tryz.underlying5
  a5 := Tryz.isAgg5
  z5 := Tryz.sizeOf5
  v5 := Tryz.zeroValue5
  t9 := Tryz.underlying9
  a9 := Tryz.isAgg9
  z9 := Tryz.sizeOf9
  v9 := Tryz.zeroValue9
  t20 := Tryz.underlying20
  a20 := Tryz.isAgg20
  z20 := Tryz.sizeOf20
  v20 := Tryz.zeroValue20
  t37 := Tryz.underlying62
  a37 := Tryz.isAgg62
  z37 := Tryz.sizeOf62
  v37 := Tryz.zeroValue62
  t46 := Tryz.underlying95
  a46 := Tryz.isAgg95
  z46 := Tryz.sizeOf95
  v46 := Tryz.zeroValue95
  t51 := Tryz.underlying148
  a51 := Tryz.isAgg148
  z51 := Tryz.sizeOf148
  v51 := Tryz.zeroValue148
  t53 := Tryz.underlying143
  a53 := Tryz.isAgg143
  z53 := Tryz.sizeOf143
  v53 := Tryz.zeroValue143
  t171 := Tryz.underlying142
  a171 := Tryz.isAgg142
  z171 := Tryz.sizeOf142
  v171 := Tryz.zeroValue142
  t173 := Tryz.underlying146
  a173 := Tryz.isAgg146
  z173 := Tryz.sizeOf146
  v173 := Tryz.zeroValue146
  t212 := Tryz.underlying167
  a212 := Tryz.isAgg167
  z212 := Tryz.sizeOf167
  v212 := Tryz.zeroValue167
  t213 := Tryz.underlying168
  a213 := Tryz.isAgg168
  z213 := Tryz.sizeOf168
  t232 := Tryz.underlying196
  a232 := Tryz.isAgg196
  z232 := Tryz.sizeOf196
  v232 := Tryz.zeroValue196
  t233 := Tryz.underlying197
  a233 := Tryz.isAgg197
  z233 := Tryz.sizeOf197
  v233 := Tryz.zeroValue197
  g17 := by kernel_rfl
  g18 := by kernel_rfl
  g19 := by kernel_rfl
  i0 := by kernel_rfl
  i2 := by kernel_rfl
  i3 := by kernel_rfl
  i4 := by kernel_rfl
  i5 := by kernel_rfl
  i9 := by kernel_rfl
  i20 := by kernel_rfl
  i37 := by kernel_rfl
  i46 := by kernel_rfl
  i51 := by kernel_rfl
  i53 := by kernel_rfl
  i171 := by kernel_rfl
  i173 := by kernel_rfl
  i212 := by kernel_rfl
  i232 := by kernel_rfl
  i233 := by kernel_rfl
  m17 := by kernel_rfl
  m18 := by kernel_rfl
  m19 := by kernel_rfl }
open Go.RowKit Go.Sort Go.Lib in
theorem Tryz.strconv_Itoa (n : Int) (h0 : -9223372036854775808 ≤ n) (h1 : n ≤ 9223372036854775807) (w : World) (htab : Lib.TabIs Tryz.prog w "internal/strconv.uint64pow10" .u64 Lib.pow10Tab) :
    Calls Tryz.prog 50 #[.int .i64 n] w fun e w' => e = .returned (.string ⟨(Lib.itoa n).toArray⟩) ∧ ∃ k os, w' = grow (w.drewN k) os := Any.strconv_Itoa Tryz.laysM171 n h0 h1 w htab
def Tryz.lays145_ren : Go.Shelf.Ren := ⟨fun | 145 => 139 | 220 => 159 | 219 => 125 | 217 => 150 | 225 => 151 | 224 => 152 | 267 => 153 | 266 => 170 | 314 => 171 | n => n, fun | 9 => 9 | 4 => 4 | 59 => 163 | 3 => 3 | 5 => 5 | 46 => 95 | 146 => 149 | 51 => 148 | n => n, fun | 1 => 1 | n => n⟩
theorem Tryz.lays145 : Go.Proofs.Lays.n145 Tryz.prog Tryz.lays145_ren := {
  mixed := by kernel_rfl
  f145 := Tryz.func139.trans (congrArg some (by kernel_rfl))
  f217 := Tryz.func150.trans (congrArg some (by kernel_rfl))
  f219 := Tryz.func125.trans (congrArg some (by kernel_rfl))
  f220 := Tryz.func159.trans (congrArg some (by kernel_rfl))
  f224 := Tryz.func152.trans (congrArg some (by kernel_rfl))
  f225 := Tryz.func151.trans (congrArg some (by kernel_rfl))
  f266 := Tryz.func170.trans (congrArg some (by kernel_rfl))
  f267 := Tryz.func153.trans (congrArg some (by kernel_rfl))
  f314 := Tryz.func171.trans (congrArg some (by kernel_rfl))
  t3 := Tryz.underlying3
  a3 := Tryz.isAgg3
  z3 := Tryz.sizeOf3
  v3 := Tryz.zeroValue3
  t4 := Tryz.underlying4
  a4 := Tryz.isAgg4
  z4 := Tryz.sizeOf4
  v4 := Tryz.zeroValue4
  t5 := Tryz.underlying5
  a5 := Tryz.isAgg5
  z5 := Tryz.sizeOf5
  v5 := Tryz.zeroValue5
  t9 := Tryz.underlying9
  a9 := Tryz.isAgg9
  z9 := Tryz.sizeOf9
  v9 := Tryz.zeroValue9
  t46 := Tryz.underlying95
  a46 := Tryz.isAgg95
  z46 := Tryz.sizeOf95
  v46 := Tryz.zeroValue95
  t51 := Tryz.underlying148
  a51 := Tryz.isAgg148
  z51 := Tryz.sizeOf148
  v51 := Tryz.zeroValue148
  t59 := Tryz.underlying163
  a59 := Tryz.isAgg163
  z59 := Tryz.sizeOf163
  v59 := Tryz.zeroValue163
  t146 := Tryz.underlying149
  a146 := Tryz.isAgg149
  z146 := Tryz.sizeOf149
  v146 := Tryz.zeroValue149
  g1 := by kernel_rfl }
open Go.RowKit Go.Lib in
theorem Tryz.strings_Cut (s sep : ByteArray) (m : Int) (w : World) (hs : s.size < 4294967281) (hm : w.cell? ⟨1, 0, none⟩ = some (.int .i64 m)) :
    Calls Tryz.prog 139 #[.string s, .string sep] w fun e w' => e = .returned (.tuple #[.string ⟨(Lib.cut s.data.toList sep.data.toList).1.toArray⟩, .string ⟨(Lib.cut s.data.toList sep.data.toList).2.1.toArray⟩, .bool (Lib.cut s.data.toList sep.data.toList).2.2]) ∧ ∃ n, w' = w.drewN n := Any.strings_Cut Tryz.lays145 s sep m w hs hm
def Tryz.lays155_ren : Go.Shelf.Ren := ⟨fun | 155 => 52 | 154 => 79 | 138 => 98 | 165 => 94 | 143 => 99 | 166 => 95 | 197 => 100 | 169 => 97 | 195 => 123 | 218 => 124 | 240 => 121 | 241 => 122 | 219 => 125 | 260 => 126 | 276 => 148 | 277 => 149 | 217 => 150 | 225 => 151 | 224 => 152 | 267 => 153 | 266 => 170 | 314 => 171 | n => n, fun | 9 => 9 | 3 => 3 | 4 => 4 | 72 => 127 | 0 => 0 | 76 => 131 | 105 => 135 | 21 => 21 | 5 => 5 | 70 => 125 | 20 => 20 | 37 => 62 | 75 => 130 | 127 => 153 | 164 => 170 | 46 => 95 | 119 => 173 | 139 => 176 | 138 => 175 | 146 => 149 | 51 => 148 | 80 => 109 | n => n, fun | 1 => 1 | 3 => 2 | 4 => 3 | n => n⟩
theorem Tryz.lays155 : Go.Proofs.Lays.n155 Tryz.prog Tryz.lays155_ren := {
  mixed := by kernel_rfl
  f138 := Tryz.func98.trans (congrArg some (by kernel_rfl))
  f143 := Tryz.func99.trans (congrArg some (by kernel_rfl))
  f154 := Tryz.func79.trans (congrArg some (by kernel_rfl))
  f155 := Tryz.func52.trans (congrArg some (by kernel_rfl))
  f165 := Tryz.func94.trans (congrArg some (by kernel_rfl))
  f166 := Tryz.func95.trans (congrArg some (by kernel_rfl))
  f169 := Tryz.func97.trans (congrArg some (by kernel_rfl))
  f195 := Tryz.func123.trans (congrArg some (by kernel_rfl))
  f197 := Tryz.func100.trans (congrArg some (by kernel_rfl))
  f217 := Tryz.func150.trans (congrArg some (by kernel_rfl))
  f218 := Tryz.func124.trans (congrArg some (by kernel_rfl))
  f219 := Tryz.func125.trans (congrArg some (by kernel_rfl))
  f224 := Tryz.func152.trans (congrArg some (by kernel_rfl))
  f225 := Tryz.func151.trans (congrArg some (by kernel_rfl))
  f240 := Tryz.func121.trans (congrArg some (by kernel_rfl))
  f241 := Tryz.func122.trans (congrArg some (by kernel_rfl))
  f260 := Tryz.func126.trans (congrArg some (by kernel_rfl))
  f266 := Tryz.func170.trans (congrArg some (by kernel_rfl))
  f267 := Tryz.func153.trans (congrArg some (by kernel_rfl))
  f276 := Tryz.func148.trans (congrArg some (by kernel_rfl))
  f277 := Tryz.func149.trans (congrArg some (by kernel_rfl))
  f314 := Tryz.func171.trans (congrArg some (by kernel_rfl))
  t0 := Tryz.underlying0
  a0 := Tryz.isAgg0
  z0 := Tryz.sizeOf0
  v0 := Tryz.zeroValue0
  t3 := Tryz.underlying3
  a3 := Tryz.isAgg3
  z3 := Tryz.sizeOf3
  v3 := Tryz.zeroValue3
  t4 := Tryz.underlying4
  a4 := Tryz.isAgg4
  z4 := Tryz.sizeOf4
  v4 := Tryz.zeroValue4
  t5 := Tryz.underlying5
  a5 := Tryz.isAgg5
  z5 := Tryz.sizeOf5
  v5 := Tryz.zeroValue5
  t9 := Tryz.underlying9
  a9 := Tryz.isAgg9
  z9 := Tryz.sizeOf9
  v9 := Tryz.zeroValue9
  t20 := Tryz.underlying20
  a20 := Tryz.isAgg20
  z20 := Tryz.sizeOf20
  v20 := Tryz.zeroValue20
  t21 := Tryz.underlying21
  a21 := Tryz.isAgg21
  z21 := Tryz.sizeOf21
  v21 := Tryz.zeroValue21
  t37 := Tryz.underlying62
  a37 := Tryz.isAgg62
  z37 := Tryz.sizeOf62
  v37 := Tryz.zeroValue62
  t46 := Tryz.underlying95
  a46 := Tryz.isAgg95
  z46 := Tryz.sizeOf95
  v46 := Tryz.zeroValue95
  t51 := Tryz.underlying148
  a51 := Tryz.isAgg148
  z51 := Tryz.sizeOf148
  v51 := Tryz.zeroValue148
  t70 := Tryz.underlying125
  a70 := Tryz.isAgg125
  z70 := Tryz.sizeOf125
  v70 := Tryz.zeroValue125
  t72 := Tryz.underlying127
  a72 := Tryz.isAgg127
  z72 := Tryz.sizeOf127
  v72 := Tryz.zeroValue127
  t75 := Tryz.underlying130
  a75 := Tryz.isAgg130
  z75 := Tryz.sizeOf130
  v75 := Tryz.zeroValue130
  t76 := Tryz.underlying131
  a76 := Tryz.isAgg131
  z76 := Tryz.sizeOf131
  v76 := Tryz.zeroValue131
  t105 := Tryz.underlying135
  a105 := Tryz.isAgg135
  z105 := Tryz.sizeOf135
  v105 := Tryz.zeroValue135
  t119 := Tryz.underlying173
  a119 := Tryz.isAgg173
  z119 := Tryz.sizeOf173
  t127 := Tryz.underlying153
  a127 := Tryz.isAgg153
  z127 := Tryz.sizeOf153
  v127 := Tryz.zeroValue153
  t138 := Tryz.underlying175
  a138 := Tryz.isAgg175
  z138 := Tryz.sizeOf175
  v138 := Tryz.zeroValue175
  t139 := Tryz.underlying176
  a139 := Tryz.isAgg176
  z139 := Tryz.sizeOf176
  v139 := Tryz.zeroValue176
  t146 := Tryz.underlying149
  a146 := Tryz.isAgg149
  z146 := Tryz.sizeOf149
  v146 := Tryz.zeroValue149
  t164 := Tryz.underlying170
  a164 := Tryz.isAgg170
  z164 := Tryz.sizeOf170
  v164 := Tryz.zeroValue170
  g1 := by kernel_rfl
  g3 := by kernel_rfl
  g4 := by kernel_rfl }
theorem Tryz.Builder_Extra_155 : Builder.Extra Tryz.prog Tryz.lays155_ren := {
  sizeBuilder := by kernel_rfl
  liesBuilder := by kernel_rfl
  t5 := Tryz.underlying5
  a5 := Tryz.isAgg5
  z5 := Tryz.sizeOf5
  v5 := Tryz.zeroValue5
  infoByte := by kernel_rfl
  cellsByte := by kernel_rfl
  sizeByte := by kernel_rfl
  neB5 := by decide }
open Go.RowKit Go.Lib in
theorem Tryz.strings_ReplaceAll (s old new : ByteArray) (m : Int) (w : World) (hs : s.size < 4294967281) (hm : w.cell? ⟨1, 0, none⟩ = some (.int .i64 m)) (h1 : 1 ≤ old.size) (hlen : s.size + Lib.countB s old * new.size ≤ 140737488355328) :
    Calls Tryz.prog 52 #[.string s, .string old, .string new] w fun e w' =>
      e = .returned (.string ⟨(Lib.replaceAll s.data.toList old.data.toList new.data.toList).toArray⟩) ∧ Below w.heap.size w w' := Any.strings_ReplaceAll Tryz.lays155 Tryz.Builder_Extra_155 s old new m w hs hm h1 hlen
end Go.Proofs
