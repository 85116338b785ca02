-- Written by drive.py and pack.py (programs of this proof's own) through the kit's printer; not trusted: Lean checks it.
import Derived.Test.YtdlkibeljkapeaaGreatDoorCSqlKnown0
namespace Go.Proofs.YtdlkibeljkapeaaGreatDoor.Den
open Go Go.RowKit
section
variable {P:Program} {X Y:Map} {w:World}
theorem posOf_some {x:Nat}:∀ {l:List Nat} {j:Nat},posOf x l=some j→l[j]? = some x
 | [],j,h=>by cases h
 | y::l,j,h=>by
  unfold posOf at h
  split at h
  ·rename_i e;cases h;rw [e];rfl
  ·split at h
   ·rename_i k hk;cases h;simpa using posOf_some hk
   ·cases h
theorem nodupB_spec:∀ {l:List Nat},nodupB l=true→∀ {i j x:Nat},l[i]? = some x→l[j]? = some x→i=j
 | [],_,i,j,x,hi,_=>by simp at hi
 | y::l,h,i,j,x,hi,hj=>by
  unfold nodupB at h
  simp only [Bool.and_eq_true,Bool.not_eq_true',List.contains_eq_mem,decide_eq_false_iff_not] at h
  cases i with
  | zero=>cases j with
   | zero=>rfl
   | succ j =>
    simp at hi hj
    exact absurd (List.mem_of_getElem? hj) (hi ▸ h.1)
  | succ i=>cases j with
   | zero =>
    simp at hi hj
    exact absurd (List.mem_of_getElem? hi) (hj ▸ h.1)
   | succ j =>
    simp at hi hj
    rw [nodupB_spec h.2 hi hj]
theorem R.ren0 {f:Nat→Option Nat} (hn:X.nu=Y.nu) (hM:∀ b o v,X.M b o=some v→Y.M b o=some v) (hf:∀ id j b,f id=some j→X.mb id=some b→Y.mb j=some b) {p:PV} {v:Value} (h:R X p v):R Y (ren0 f p) v:=by
 cases h with
 | any v=>exact .any v
 | undef=>exact .undef
 | bool b=>exact .bool b
 | int k n=>exact .int k n
 | str s=>exact .str s
 | nilptr=>exact .nilptr
 | box id off b hb =>
  simp only [Den.ren0]
  cases hj:f id with
  | none=>exact .any _
  | some j=>exact .box j off b (hf _ _ _ hj hb)
 | ref cs b o u h1 h2 h3=>exact .ref cs b o u (fun j c hc=>hM _ _ _ (h1 j c hc)) (fun j c hc=>(h2 j c hc).clean hn hM (h3 j c hc).2) h3
 | slice sz xs b o cap u h1 h2 h3 h4 h5 h6 =>
  exact .slice sz xs b o cap u h1 h2 h3 (fun j c hc=>hM _ _ _ (h4 j c hc)) (fun j c hc=>(h5 j c hc).clean hn hM (h6 j c hc).2) h6
 | ms g n b cap hb=>exact .any _
 | rp g n off b cap hb=>exact .any _
 | nilslice=>exact .nilslice
 | eslice a=>exact .eslice a
 | agg cs vs h1 h2 h3=>exact .any _
 | tup cs vs h1 h2=>exact .any _
 | fn g a b fs cs h1 h2 h3 h4 =>
  simp only [Den.ren0]
  split
  ·rename_i he
   simp only [Bool.and_eq_true,List.isEmpty_iff] at he
   obtain ⟨rfl,rfl⟩:=he
   exact .fn g [] [] fs cs h1 h2 (fun j c hj=>by simp at hj) (fun j c hj=>by simp at hj)
  ·exact .any _
 | nilfn=>exact .nilfn
 | atom j v h1 h2 h3=>rw [hn] at h1;have:=h3.clean hn hM (hn ▸ h1.1);rw [hn] at this;exact .atom j v h1 h2 this
theorem map_get {α β:Type} {f:α→β} {l:List α} {j:Nat} {c:β} (h:(l.map f)[j]? = some c):∃ a,l[j]? = some a∧c=f a:=by
 simp only [List.getElem?_map,Option.map_eq_some_iff] at h
 obtain ⟨a,ha,rfl⟩:=h
 exact ⟨a,ha,rfl⟩
theorem R.ren1 {f:Nat→Option Nat} (hn:X.nu=Y.nu) (hM:∀ b o v,X.M b o=some v→Y.M b o=some v) (hf:∀ id j b,f id=some j→X.mb id=some b→Y.mb j=some b) {p:PV} {v:Value} (h:R X p v):R Y (ren1 f p) v:=by
 cases h with
 | agg cs vs h1 h2 h3 =>
  refine .agg _ _ (by simpa using h1) (fun j c hc=>?_) h3
  obtain ⟨a,ha,rfl⟩:=map_get hc
  exact (h2 j a ha).ren0 hn hM hf
 | fn g a b fs cs h1 h2 h3 h4 =>
  refine .fn g _ _ fs cs (by simpa using h1) (by simpa using h2) (fun j c hc=>?_) (fun j c hc=>?_)
  ·obtain ⟨q,hq,rfl⟩:=map_get hc
   exact (h3 j q hq).ren0 hn hM hf
  ·obtain ⟨q,hq,rfl⟩:=map_get hc
   exact (h4 j q hq).ren0 hn hM hf
 | any v=>exact .any v
 | undef=>exact .undef
 | bool b=>exact .bool b
 | int k n=>exact .int k n
 | str s=>exact .str s
 | nilptr=>exact .nilptr
 | box id off b hb=>exact (R.box id off b hb).ren0 hn hM hf
 | ref cs b o u h1 h2 h3=>exact (R.ref cs b o u h1 h2 h3).ren0 hn hM hf
 | slice sz xs b o cap u h1 h2 h3 h4 h5 h6=>exact (R.slice sz xs b o cap u h1 h2 h3 h4 h5 h6).ren0 hn hM hf
 | ms g n b cap hb=>exact .any _
 | rp g n off b cap hb=>exact .any _
 | nilslice=>exact .nilslice
 | eslice a=>exact .eslice a
 | tup cs vs h1 h2=>exact .any _
 | nilfn=>exact .nilfn
 | atom j v h1 h2 h3=>exact (R.atom j v h1 h2 h3).ren0 hn hM hf
theorem R.ren2 {f:Nat→Option Nat} (hn:X.nu=Y.nu) (hM:∀ b o v,X.M b o=some v→Y.M b o=some v) (hf:∀ id j b,f id=some j→X.mb id=some b→Y.mb j=some b) {p:PV} {v:Value} (h:R X p v):R Y (ren2 f p) v:=by
 by_cases ht:∃ vs,p = .tup vs
 ·obtain ⟨vs,rfl⟩:=ht
  cases h with
  | tup _ us h1 h2 =>
   refine .tup _ _ (by simpa using h1) (fun j c hc=>?_)
   obtain ⟨a,ha,rfl⟩:=map_get hc
   exact (h2 j a ha).ren1 hn hM hf
 ·have:Den.ren2 f p=Den.ren1 f p:=by
   cases p<;>first|rfl|(exact absurd ⟨_,rfl⟩ ht)
  rw [this]
  exact h.ren1 hn hM hf
theorem passed_spec {s:List Res} {f:Nat→Option Nat}:∀ {ids:List Nat} {s0:List Res},passed s f ids=some s0→s0.length=ids.length∧∀ (j id:Nat),ids[j]? = some id→∃ cs,s[id]? = some (.box cs)∧s0[j]? = some (.box (cs.map (ren1 f)))
 | [],s0,h=>by cases h;exact ⟨rfl,fun j id hj=>by simp at hj⟩
 | id::ids,s0,h=>by
  unfold passed at h
  split at h
  ·rename_i cs hcs
   split at h
   ·rename_i r hr
    cases h
    obtain ⟨h1,h2⟩:=passed_spec hr
    refine ⟨by simp [h1],fun j i hj=>?_⟩
    cases j with
    | zero=>simp at hj;subst hj;exact ⟨cs,hcs,rfl⟩
    | succ j=>exact h2 j i (by simpa using hj)
   ·cases h
  ·cases h
theorem upds_len:∀ (ids:List Nat) (rs s:List Res),(upds s ids rs).length=s.length
 | [],_,_=>by simp [upds]
 | _::_,[],_=>by simp [upds]
 | id::ids,r::rs,s=>by simp only [upds];rw [upds_len];simp
theorem upds_other:∀ (ids:List Nat) (rs s:List Res) (k:Nat),k ∉ ids→(upds s ids rs)[k]? = s[k]?
 | [],_,_,_,_=>by simp [upds]
 | _::_,[],_,_,_=>by simp [upds]
 | id::ids,r::rs,s,k,h=>by
  simp only [List.mem_cons,not_or] at h
  simp only [upds]
  rw [upds_other ids rs _ k h.2,List.getElem?_set_ne (fun e=>h.1 e.symm)]
theorem upds_get:∀ (ids:List Nat) (rs s:List Res) (j id:Nat),nodupB ids=true→ids[j]? = some id→j < rs.length→id < s.length→(upds s ids rs)[id]? = rs[j]?
 | [],_,_,j,_,_,h,_,_=>by simp at h
 | _::_,[],_,_,_,_,_,h,_=>by simp at h
 | x::ids,r::rs,s,j,id,hn,hj,hl,hs=>by
  have hn':=hn
  unfold nodupB at hn'
  simp only [Bool.and_eq_true,Bool.not_eq_true',List.contains_eq_mem,decide_eq_false_iff_not] at hn'
  simp only [upds]
  cases j with
  | zero =>
   simp at hj
   subst hj
   rw [upds_other _ _ _ _ hn'.1,List.getElem?_set_self hs]
   rfl
  | succ j =>
   rw [upds_get ids rs (s.set x r) j id hn'.2 (by simpa using hj) (by simpa using hl) (by simpa using hs)]
   rfl
def OpPost (X:Map) (w:World) (s:List Res) (out:Out) (v:Value) (w':World):Prop :=
 ∃ X',R X' out.v v∧Post X X' w w' (fun i=>s[i]?) (fun i=>out.s[i]?) (fun id=>id∈out.wr∨(s.length≤id∧id < out.s.length))
def SelfOk (P:Program) (nu:Nat→PV) (self:Self):Prop:=∀ g args s r s',self g args s=some (r,s') →
 s.length≤s'.length∧(∃ fn,P.funcs[g]? = some fn∧(fn.name == "runtime.NumGoroutine")=false∧fn.body.isSome=true) ∧
 ∀ X w (vs:Array Value),X.nu=nu→vs.size=args.length→(∀ (j:Nat) p,args[j]? = some p→R X p (vs.getD j Go.undef))→Inv X w (fun i=>s[i]?) →
  Calls P g vs w fun e w'=>∃ v X',e = .returned v∧R X' r v∧Post X X' w w' (fun i=>s[i]?) (fun i=>s'[i]?) (fun _=>True)
theorem call_sound {nu:Nat→PV} (hnu:X.nu=nu) {self:Self} (hself:SelfOk P nu self) {s:List Res} {g:FuncId} {args:List PV} {out:Out} (h:callP0 self s g args=some out) (hok:X.Ok w)
  {vs:Array Value} (hvs:vs.size=args.length) (hR:∀ (j:Nat) p,args[j]? = some p→R X p (vs.getD j Go.undef)) (hres:∀ id∈out.wr,ResOk X w id s[id]?)
  (hnew:∀ id,s.length≤id→id < out.s.length→ResOk X w id none) (hdis:∀ i j b,i∈out.wr→j∈out.wr→Owns X i b s[i]? → Owns X j b s[j]? → i=j) :
  (∃ fn,P.funcs[g]? = some fn∧(fn.name == "runtime.NumGoroutine")=false∧fn.body.isSome=true)∧Calls P g vs w fun e w'=>∃ v,e = .returned v∧OpPost X w s out v w':=by
 unfold callP0 at h
 dsimp only at h
 generalize hids:reach s 4 ((args.flatMap refs1).foldl addNew [])=ids at h
 split at h
 ·cases h
 ·rename_i hnd
  split at h
  ·cases h
  ·rename_i s0 hs0
   split at h
   ·cases h
   ·rename_i r s1 hcall
    obtain ⟨hlen1,hfn,hcalls⟩:=hself _ _ _ _ _ hcall
    refine ⟨hfn,?_⟩
    generalize hf:(fun id=>posOf id ids)=f at hs0 hcall hcalls
    have hfspec:∀ id j,f id=some j→ids[j]? = some id:=fun id j hj=>by rw [← hf] at hj;exact posOf_some hj
    generalize himp:(refs2 r).any (ids.length ≤ ·)=imp at h
    generalize hback:(fun j=>if j < ids.length then ids[j]? else if imp=true then some (s.length+(j - ids.length)) else none)=back at h
    have hout:out.v=ren2 back r∧out.s=upds s ids ((s1.take ids.length).map (renRes back))++(if imp=true then (s1.drop ids.length).map (renRes back) else [])∧out.wr=ids:=by
     split at h
     ·cases h;exact ⟨rfl,by simp [upds],rfl⟩
     ·cases h;exact ⟨rfl,rfl,rfl⟩
    clear h
    obtain ⟨hov,hos,how⟩:=hout
    obtain ⟨hl0,hp0⟩:=passed_spec hs0
    rw [how] at hres hdis
    generalize hm:ids.length=m at *
    have hidlt:∀ j id,ids[j]? = some id→id < s.length:=fun j id hj=>by
     obtain ⟨cs,hcs,_⟩:=hp0 j id hj
     exact lt_of_get hcs
    let Xc:Map:={ M:=X.M,mb:=fun j=>match ids[j]? with|some id=>X.mb id|none=>none,mt:=fun _ _=>none,nu:=X.nu }
    have hXc:∀ j id,ids[j]? = some id→Xc.mb j=X.mb id:=fun j id hj=>by show (match ids[j]? with|some id=>X.mb id|none=>none)=_;rw [hj]
    have hXcn:∀ j,ids[j]? = none→Xc.mb j=none:=fun j hj=>by show (match ids[j]? with|some id=>X.mb id|none=>none)=_;rw [hj]
    have hfX:∀ id j b,f id=some j→X.mb id=some b→Xc.mb j=some b:=fun id j b hj hb=>(hXc j id (hfspec id j hj)).trans hb
    have hinv:Inv Xc w (fun i=>s0[i]?):=by
     refine ⟨hok,fun j=>?_,fun i j b hi hj=>?_⟩
     ·cases hj:ids[j]? with
      | none =>
       have:s0[j]? = none:=List.getElem?_eq_none (by rw [hl0,← hm];exact List.getElem?_eq_none_iff.1 hj)
       rw [this]
       exact ⟨hXcn j hj,fun _=>rfl⟩
      | some id =>
       obtain ⟨cs,hcs,hcs0⟩:=hp0 j id hj
       have hr:=hres id (List.mem_of_getElem? hj)
       rw [hcs] at hr
       obtain ⟨b,us,e,a1,a2,a3,a4,a5,a6,a7⟩:=hr
       rw [hcs0]
       refine ⟨b,us,e,(hXc j id hj).trans a1,a2,by simpa using a3,a4,fun k c hc=>?_,a6,fun _=>rfl⟩
       obtain ⟨q,hq,rfl⟩:=map_get hc
       exact (a5 k q hq).ren1 (X:=X) (Y:=Xc) rfl (fun _ _ _ h=>h) hfX
     ·have key:∀ i,Owns Xc i b (s0[i]?)→∃ id,ids[i]? = some id∧Owns X id b (s[id]?):=fun i hi=>by
       cases hid:ids[i]? with
       | none =>
        have:s0[i]? = none:=List.getElem?_eq_none (by rw [hl0,← hm];exact List.getElem?_eq_none_iff.1 hid)
        rw [this] at hi;exact hi.elim
       | some id =>
        obtain ⟨cs,hcs,hcs0⟩:=hp0 i id hid
        rw [hcs0] at hi
        have hi':Xc.mb i=some b:=hi
        exact ⟨id,rfl,by rw [hcs];exact (hXc i id hid).symm.trans hi'⟩
      obtain ⟨id1,e1,o1⟩:=key i hi
      obtain ⟨id2,e2,o2⟩:=key j hj
      have:=hdis id1 id2 b (List.mem_of_getElem? e1) (List.mem_of_getElem? e2) o1 o2
      subst this
      exact nodupB_spec hnd e1 e2
    refine (hcalls Xc w vs hnu (by simpa using hvs) (fun j p hp=>?_) hinv).mono ?_
    ·obtain ⟨q,hq,rfl⟩:=map_get hp
     exact (hR j q hq).ren1 (X:=X) (Y:=Xc) rfl (fun _ _ _ h=>h) hfX
    rintro e w' ⟨v,X',rfl,hRr,hpost⟩
    refine ⟨v,rfl,?_⟩
    have hle:=hpost.le
    have hslen:(upds s ids ((s1.take m).map (renRes back))).length=s.length:=upds_len _ _ _
    have houtlen:out.s.length=s.length+(if imp=true then s1.length - m else 0):=by
     rw [hos,List.length_append,hslen];split<;>simp
    have hl0':s0.length≤s1.length:=hlen1
    let Y:Map:={ M:=X'.M,mb:=fun id=>if s.length≤id∧id < out.s.length then X'.mb (m+(id - s.length)) else X.mb id,mt:=X.mt,nu:=X.nu }
    have hYold:∀ id,id < s.length→Y.mb id=X.mb id:=fun id hid=>by show (if _ then _ else _)=_;rw [if_neg (by omega)]
    have hYnew:∀ id,s.length≤id→id < out.s.length→Y.mb id=X'.mb (m+(id - s.length)):=fun id h1 h2=>by show (if _ then _ else _)=_;rw [if_pos ⟨h1,h2⟩]
    have hkept:∀ j id b,ids[j]? = some id→X'.mb j=some b→X.mb id=some b:=fun j id b hj hb=>by
     obtain ⟨cs,hcs,_⟩:=hp0 j id hj
     have hr:=hres id (List.mem_of_getElem? hj)
     rw [hcs] at hr
     obtain ⟨b',us,e,a1,_⟩:=hr
     have:=hle.mb j b' ((hXc j id hj).trans a1)
     rw [this] at hb;cases hb;exact a1
    have hbk:∀ j id b,back j=some id→X'.mb j=some b→Y.mb id=some b:=fun j id b hj hb=>by
     rw [← hback] at hj
     dsimp only at hj
     by_cases hjm:j < m
     ·rw [if_pos hjm] at hj
      rw [hYold id (hidlt j id hj)]
      exact hkept j id b hj hb
     ·rw [if_neg hjm] at hj
      cases himp':imp with
      | false=>simp [himp'] at hj
      | true =>
       simp only [himp',if_true,Option.some.injEq] at hj
       subst hj
       by_cases hjl:j < s1.length
       ·rw [hYnew _ (by omega) (by rw [houtlen,himp',if_pos rfl];omega)]
        rw [show m+(s.length+(j - m) - s.length)=j by omega]
        exact hb
       ·have hn:=hpost.res j trivial
        rw [List.getElem?_eq_none (by omega)] at hn
        rw [hn.1] at hb;cases hb
    have hIdx:∀ id,(id∈out.wr∨(s.length≤id∧id < out.s.length))→∃ j,(ids[j]? = some id∨(s.length≤id∧id < out.s.length∧j=m+(id - s.length)))∧out.s[id]? = (s1[j]?).map (renRes back)∧(∃ q,s1[j]? = some q)∧(∀ b,X'.mb j=some b→Y.mb id=some b)∧(∀ b,Y.mb id=some b→X'.mb j=some b)∧(∀ n,Y.mt id n=none):=by
     rintro id (hid|⟨h1,h2⟩)
     ·rw [how] at hid
      obtain ⟨j,hj⟩:=List.mem_iff_getElem?.1 hid
      have hjm:j < m:=by rw [← hm];exact lt_of_get hj
      have hid':=hidlt j id hj
      have hj1:j < s1.length:=by omega
      refine ⟨j, .inl hj,?_,⟨_,List.getElem?_eq_getElem hj1⟩,fun b hb=>?_,fun b hb=>?_,fun n=>?_⟩
      ·rw [hos,List.getElem?_append_left (by rw [hslen];exact hid'),upds_get ids _ s j id hnd hj (by simp;omega) hid',List.getElem?_map,List.getElem?_take_of_lt hjm]
      ·rw [hYold id hid'];exact hkept j id b hj hb
      ·rw [hYold id hid'] at hb
       exact hle.mb j b ((hXc j id hj).trans hb)
      ·obtain ⟨cs,hcs,_⟩:=hp0 j id hj
       have hr:=hres id hid
       rw [hcs] at hr
       obtain ⟨_,_,_,_,_,_,_,_,_,a7⟩:=hr
       exact a7 n
     ·have hi:imp=true:=by
       cases hi:imp with
       | true=>rfl
       | false=>rw [houtlen,hi] at h2;simp at h2;omega
      have h3:id < s.length+(s1.length - m):=by rw [houtlen,hi] at h2;simpa using h2
      refine ⟨m+(id - s.length), .inr ⟨h1,h2,rfl⟩,?_,⟨_,List.getElem?_eq_getElem (by omega)⟩,fun b hb=>?_,fun b hb=>?_,fun n=>(hnew id h1 h2).2 n⟩
      ·rw [hos,List.getElem?_append_right (by rw [hslen];exact h1),hslen,if_pos hi,List.getElem?_map,List.getElem?_drop]
      ·rw [hYnew id h1 h2];exact hb
      ·rw [hYnew id h1 h2] at hb;exact hb
    have hIdxInj:∀ id id' j,(ids[j]? = some id∨(s.length≤id∧id < out.s.length∧j=m+(id - s.length)))→(ids[j]? = some id'∨(s.length≤id'∧id' < out.s.length∧j=m+(id' - s.length)))→id=id':=by
     rintro id id' j (h1|⟨h1,h1',h1''⟩) (h2|⟨h2,h2',h2''⟩)
     ·rw [h1] at h2;cases h2;rfl
     ·have:=lt_of_get h1;omega
     ·have:=lt_of_get h2;omega
     ·omega
    have hOwn:∀ id j b,out.s[id]? = (s1[j]?).map (renRes back)→(∀ b,Y.mb id=some b→X'.mb j=some b)→Owns Y id b (out.s[id]?)→Owns X' j b (s1[j]?):=by
     intro id j b he hb ho
     rw [he] at ho
     cases hq:s1[j]? with
     | none=>rw [hq] at ho;exact ho.elim
     | some q =>
      rw [hq] at ho
      cases q with
      | dead=>exact ho.elim
      | row e sz n cs=>exact ho.elim
      | box cs=>exact hb b ho
    refine ⟨Y,?_,⟨⟨hle.M,fun id b hb=>?_,fun _ _ _ h=>h,rfl⟩,hpost.ok,hpost.grow,hpost.os,hpost.tape,hpost.output,fun k hk hnot=>?_,fun b o u hu=>?_,fun id hid=>?_,fun id hid=>?_,fun id b hid ho=>?_,fun i j b hi hj ho1 ho2=>?_⟩⟩
    ·rw [hov];exact hRr.ren2 (X:=X') (Y:=Y) hle.nu.symm (fun _ _ _ h=>h) hbk
    ·by_cases hn:s.length≤id∧id < out.s.length
     ·have:=(hnew id hn.1 hn.2).1
      rw [this] at hb;cases hb
     ·show (if _ then _ else _)=_
      rw [if_neg hn];exact hb
    ·refine hpost.keep k hk (fun j _ ho=>?_)
     cases hj:ids[j]? with
     | none =>
      have:s0[j]? = none:=List.getElem?_eq_none (by rw [hl0,← hm];exact List.getElem?_eq_none_iff.1 hj)
      rw [this] at ho;exact ho
     | some id =>
      obtain ⟨cs,hcs,hcs0⟩:=hp0 j id hj
      rw [hcs0] at ho
      refine hnot id (.inl (by rw [how];exact List.mem_of_getElem? hj)) ?_
      show Owns X id k (s[id]?)
      rw [hcs]
      exact (hXc j id hj).symm.trans ho
    ·rcases hpost.fresh b o u hu with h'|⟨j,_,ho⟩|h'
     ·exact .inl h'
     ·cases hj:ids[j]? with
      | none =>
       have:s0[j]? = none:=List.getElem?_eq_none (by rw [hl0,← hm];exact List.getElem?_eq_none_iff.1 hj)
       rw [this] at ho;exact ho.elim
      | some id =>
       obtain ⟨cs,hcs,hcs0⟩:=hp0 j id hj
       rw [hcs0] at ho
       refine .inr (.inl ⟨id, .inl (by rw [how];exact List.mem_of_getElem? hj),?_⟩)
       show Owns X id b (s[id]?)
       rw [hcs]
       exact (hXc j id hj).symm.trans ho
     ·exact .inr (.inr h')
    ·refine ⟨?_,rfl⟩
     show (if _ then _ else _)=_
     rw [if_neg (fun h=>hid (.inr h))]
    ·obtain ⟨j,_,he,⟨q,hq⟩,hb1,hb2,hmt⟩:=hIdx id hid
     have hr:=hpost.res j trivial
     show ResOk Y w' id (out.s[id]?)
     rw [he,hq]
     rw [hq] at hr
     cases q with
     | dead=>trivial
     | row e sz n cs=>trivial
     | box cs =>
      obtain ⟨b,us,e,a1,a2,a3,a4,a5,a6,a7⟩:=hr
      refine ⟨b,us,e,hb1 b a1,a2,by simpa using a3,a4,fun k c hc=>?_,a6,hmt⟩
      obtain ⟨q,hq,rfl⟩:=map_get hc
      exact (a5 k q hq).ren1 (X:=X') (Y:=Y) hle.nu.symm (fun _ _ _ h=>h) hbk
    ·obtain ⟨j,hj,he,_,hb1,hb2,_⟩:=hIdx id hid
     rcases hpost.own j b trivial (hOwn id j b he hb2 ho) with h'|h'
     ·cases hij:ids[j]? with
      | none =>
       have:s0[j]? = none:=List.getElem?_eq_none (by rw [hl0,← hm];exact List.getElem?_eq_none_iff.1 hij)
       rw [this] at h';exact h'.elim
      | some id' =>
       obtain ⟨cs,hcs,hcs0⟩:=hp0 j id' hij
       have:=hIdxInj id id' j hj (.inl hij)
       subst this
       rw [hcs0] at h'
       refine .inl ?_
       show Owns X id b (s[id]?)
       rw [hcs]
       exact (hXc j id hij).symm.trans h'
     ·exact .inr h'
    ·obtain ⟨ji,hji,he1,_,_,hb1,_⟩:=hIdx i hi
     obtain ⟨jj,hjj,he2,_,_,hb2,_⟩:=hIdx j hj
     have:=hpost.dis ji jj b trivial trivial (hOwn i ji b he1 hb1 ho1) (hOwn j jj b he2 hb2 ho2)
     subst this
     exact hIdxInj i j ji hji hjj
end
open Go Go.RowKit
section
variable {P:Program} {X:Map} {w:World}
def lendC (X:Map) (s:Nat→Option Res) (S:Nat→Prop) (b o:Nat):Prop:=∃ id e sz n cs cap,S id∧s id=some (.row e sz n cs)∧X.mt id n=some (b,cap)∧o < n*sz
open Classical in
noncomputable def Map.lend (X:Map) (w:World) (s:Nat→Option Res) (S:Nat→Prop):Map:={ X with M:=fun b o=>if lendC X s S b o then w.cell? ⟨b,o,none⟩ else X.M b o }
theorem lend_none {s:Nat→Option Res} {S:Nat→Prop} (hres:∀ id,S id→ResOk X w id (s id)) {b o:Nat} (h:lendC X s S b o):X.M b o=none:=by
 obtain ⟨id,e,sz,n,cs,cap,h1,h2,h3,h4⟩:=h
 have:=hres id h1
 rw [h2] at this
 obtain ⟨b',cap',vs,a1,_,_,_,_,a6,_⟩:=this
 rw [h3] at a1;cases a1
 exact a6 o
theorem lend_le {s:Nat→Option Res} {S:Nat→Prop} (hres:∀ id,S id→ResOk X w id (s id)):X.Le (X.lend w s S):=by
 refine ⟨fun b o v hv=>?_,fun _ _ h=>h,fun _ _ _ h=>h,rfl⟩
 have:¬ lendC X s S b o:=fun h=>by rw [lend_none hres h] at hv;cases hv
 simp only [Map.lend,if_neg this];exact hv
theorem lend_ok {s:Nat→Option Res} {S:Nat→Prop} (h:X.Ok w):(X.lend w s S).Ok w:=⟨fun b o v hv=>by
 by_cases hc:lendC X s S b o
 ·simp only [Map.lend,if_pos hc] at hv;exact hv
 ·simp only [Map.lend,if_neg hc] at hv;exact h.1 b o v hv,fun g hg=>by
 obtain ⟨arr,e,fr,h1,h2,h3,h4⟩:=h.2 g hg
 refine ⟨arr,e,fr,h1,h2,fun j v hv=>?_,h4⟩
 by_cases hc:lendC X s S g j
 ·simp only [Map.lend,if_pos hc,World.cell?,h1]
  simpa using hv
 ·simp only [Map.lend,if_neg hc];exact h3 j v hv⟩
theorem lend_at {s:Nat→Option Res} {S:Nat→Prop} {b o:Nat} (h:lendC X s S b o):(X.lend w s S).M b o=w.cell? ⟨b,o,none⟩:=by
 simp only [Map.lend,if_pos h]
theorem R.see0 {m:Nat} {sl:List Res} {S:Nat→Prop} (hres:∀ id,S id→ResOk X w id (sl[id]?)) {p:PV} {v:Value} (h:R X p v) (hS:∀ g n,p = .ms g n→m≤g→S g):R (X.lend w (fun i=>sl[i]?) S) (see0 P m sl p) v:=by
 have hle:=lend_le (s:=fun i=>sl[i]?) hres
 by_cases hp:∃ g n,p = .ms g n
 ·obtain ⟨g,n,rfl⟩:=hp
  simp only [Den.see0]
  split
  ·rename_i e sz n' cs hg
   split
   ·rename_i hc
    obtain ⟨c1,rfl,c3,c4⟩:=hc
    have hSg:=hS g n rfl c1
    have hr:=hres g hSg
    rw [hg] at hr
    obtain ⟨b,cap,vs,a1,a2,a3,a4,a5,a6,a7,a8,a9,b1,b2,b3⟩:=hr
    cases h with
    | ms _ _ b' cap' hm =>
     rw [a1] at hm;cases hm
     have hcl:∀ c∈cs,c.clean=true:=fun c hc=>List.all_eq_true.1 c4 c hc
     obtain ⟨f1,f2,f3⟩:=chunk_flat (aggP P e) sz c3 n cs b1 (fun _ c hc=>clean_cellsD (hcl c hc))
     generalize hq:chunkP (aggP P e) sz n cs=q at f1 f2 f3
     subst f2
     have hnc:q.length*sz≤cap*sz:=Nat.mul_le_mul_right _ a2
     refine .slice sz q b 0 cap (fun j=>vs.getD j Go.undef) f3 a9 a2 (fun j c hj=>?_) (fun j c hj=>?_) (fun j c hj=>?_)
     ·rw [f1] at hj
      have hlt:=lt_of_get hj
      have hl:lendC X (fun i=>sl[i]?) S b (0+j):=⟨g,e,sz,q.length,cs,cap,hSg,hg,a1,by omega⟩
      rw [lend_at hl,Nat.zero_add,cell_of_row _ _ _ _ _ _ a4]
      exact some_getD (vs:=vs) (j:=j) (by rw [a5];omega)
     ·rw [f1] at hj;exact (b2 j c hj).mono hle
     ·rw [f1] at hj
      have hlt:=lt_of_get hj
      exact ⟨b3 _ (Array.mem_of_getElem? (some_getD (vs:=vs) (j:=j) (by rw [a5];omega))),hcl c (List.mem_of_getElem? hj)⟩
   ·exact .any _
  ·exact .any _
 ·have:Den.see0 P m sl p=p:=by cases p<;>first|rfl|(exact absurd ⟨_,_,rfl⟩ hp)
  rw [this];exact h.mono hle
theorem R.see1 {m:Nat} {sl:List Res} {S:Nat→Prop} (hres:∀ id,S id→ResOk X w id (sl[id]?)) {p:PV} {v:Value} (h:R X p v) (hS:∀ g,g∈rows1 p→m≤g→S g):R (X.lend w (fun i=>sl[i]?) S) (see1 P m sl p) v:=by
 by_cases hp:∃ cs,p = .agg cs
 ·obtain ⟨cs,rfl⟩:=hp
  cases h with
  | agg _ vs h1 h2 h3 =>
   refine .agg _ vs (by simpa using h1) (fun j c hc=>?_) h3
   obtain ⟨a,ha,rfl⟩:=map_get hc
   refine (h2 j a ha).see0 hres (fun g n hg hm=>hS g ?_ hm)
   subst hg
   exact List.mem_flatMap.2 ⟨_,List.mem_of_getElem? ha,by simp [rows0]⟩
 ·have:Den.see1 P m sl p=Den.see0 P m sl p:=by cases p<;>first|rfl|(exact absurd ⟨_,rfl⟩ hp)
  rw [this]
  refine h.see0 hres (fun g n hg hm=>hS g ?_ hm)
  subst hg;simp [rows1,rows0]
theorem R.see2 {m:Nat} {sl:List Res} {S:Nat→Prop} (hres:∀ id,S id→ResOk X w id (sl[id]?)) {p:PV} {v:Value} (h:R X p v) (hS:∀ g,m≤g→S g):R (X.lend w (fun i=>sl[i]?) S) (see2 P m sl p) v:=by
 by_cases hp:∃ vs,p = .tup vs
 ·obtain ⟨cs,rfl⟩:=hp
  cases h with
  | tup _ vs h1 h2 =>
   refine .tup _ vs (by simpa using h1) (fun j c hc=>?_)
   obtain ⟨a,ha,rfl⟩:=map_get hc
   exact (h2 j a ha).see1 hres (fun g _ hm=>hS g hm)
 ·have:Den.see2 P m sl p=Den.see1 P m sl p:=by cases p<;>first|rfl|(exact absurd ⟨_,rfl⟩ hp)
  rw [this]
  exact h.see1 hres (fun g _ hm=>hS g hm)
theorem R.flatA {X Y:Map} {p:PV} {v:Value} (h:R X p v) (hp:p.flatA=true):R Y p v:=by
 cases h with
 | bool b=>exact .bool b
 | int k n=>exact .int k n
 | str s=>exact .str s
 | _=>cases hp
theorem R.flat0 {X Y:Map} (hnu:X.nu=Y.nu) (hmb:X.mb=Y.mb) {p:PV} {v:Value} (h:R X p v) (hp:flat0 p=true):R Y p v:=by
 cases h with
 | atom j v h1 h2 h3 =>
  have h4:R Y (Y.nu j) v:=by rw [← hnu];exact h3.flatA (h1.2 hp)
  exact .atom j v (by rw [← hnu];exact h1) h2 h4
 | any v=>exact .any v
 | undef=>exact .undef
 | bool b=>exact .bool b
 | int k n=>exact .int k n
 | str s=>exact .str s
 | nilptr=>exact .nilptr
 | box id off b hb=>exact .box id off b (hmb ▸ hb)
 | nilslice=>exact .nilslice
 | eslice a=>exact .eslice a
 | nilfn=>exact .nilfn
 | _=>cases hp
theorem R.flat1 {X Y:Map} (hnu:X.nu=Y.nu) (hmb:X.mb=Y.mb) {p:PV} {v:Value} (h:R X p v) (hp:flat1 p=true):R Y p v:=by
 by_cases hq:∃ cs,p = .agg cs
 ·obtain ⟨cs,rfl⟩:=hq
  cases h with
  | agg _ vs h1 h2 h3=>exact .agg cs vs h1 (fun j c hc=>(h2 j c hc).flat0 hnu hmb (List.all_eq_true.1 hp c (List.mem_of_getElem? hc))) h3
 ·have:Den.flat0 p=true:=by cases p<;>first|exact hp|(exact absurd ⟨_,rfl⟩ hq)
  exact h.flat0 hnu hmb this
theorem R.flat2 {X Y:Map} (hnu:X.nu=Y.nu) (hmb:X.mb=Y.mb) {p:PV} {v:Value} (h:R X p v) (hp:flat2 p=true):R Y p v:=by
 by_cases hq:∃ cs,p = .tup cs
 ·obtain ⟨cs,rfl⟩:=hq
  cases h with
  | tup _ vs h1 h2=>exact .tup cs vs h1 (fun j c hc=>(h2 j c hc).flat1 hnu hmb (List.all_eq_true.1 hp c (List.mem_of_getElem? hc)))
 ·have:Den.flat1 p=true:=by cases p<;>first|exact hp|(exact absurd ⟨_,rfl⟩ hq)
  exact h.flat1 hnu hmb this
theorem kill_get:∀ (l:List Nat) (s:List Res) (k:Nat),(kill l s)[k]? = if k∈l then (s[k]?).map (fun _=>Res.dead) else s[k]?
 | [],s,k=>by simp [kill]
 | g::l,s,k=>by
  simp only [kill]
  rw [kill_get l]
  by_cases hk:k=g
  ·subst hk
   by_cases hl:k∈l
   ·rw [if_pos hl,if_pos (by simp)]
    by_cases hlt:k < s.length
    ·rw [List.getElem?_set_self hlt,List.getElem?_eq_getElem hlt];rfl
    ·rw [List.getElem?_eq_none (by simpa using hlt),List.getElem?_eq_none (by omega)]
   ·simp only [hl,if_false,List.mem_cons,true_or,if_true]
    by_cases hlt:k < s.length
    ·rw [List.getElem?_set_self hlt,List.getElem?_eq_getElem hlt];rfl
    ·rw [List.getElem?_eq_none (by simpa using hlt),List.getElem?_eq_none (by omega)];rfl
  ·have:(s.set g .dead)[k]? = s[k]?:=List.getElem?_set_ne (fun e=>hk e.symm)
   rw [this]
   simp [hk]
theorem kill_len:∀ (l:List Nat) (s:List Res),(kill l s).length=s.length
 | [],_=>rfl
 | g::l,s=>by simp only [kill];rw [kill_len l];simp
theorem mergeS_get (wr:List Nat) (s0:List Res):∀ (s:List Res) (i k:Nat),(mergeS wr s0 i s)[k]? = (s[k]?).map fun x=>if wr.contains (i+k) then s0.getD (i+k) .dead else x
 | [],i,k=>by simp [mergeS]
 | x::l,i,0=>by simp [mergeS]
 | x::l,i,k+1=>by
  simp only [mergeS,List.getElem?_cons_succ]
  rw [mergeS_get wr s0 l (i+1) k,show i+1+k=i+(k+1) by omega]
theorem mergeS_len (wr:List Nat) (s0:List Res):∀ (s:List Res) (i:Nat),(mergeS wr s0 i s).length=s.length
 | [],_=>rfl
 | x::l,i=>by simp only [mergeS,List.length_cons];rw [mergeS_len wr s0 l]
theorem callP0_wr {self:Self} {s:List Res} {g:FuncId} {args:List PV} {out:Out} (h:callP0 self s g args=some out):s.length≤out.s.length∧∀ id∈out.wr,∃ cs,s[id]? = some (.box cs):=by
 unfold callP0 at h
 dsimp only at h
 split at h
 ·cases h
 ·split at h
  ·cases h
  ·rename_i s0 hs0
   split at h
   ·cases h
   ·obtain ⟨_,hp⟩:=passed_spec hs0
    split at h
    ·cases h;exact ⟨Nat.le_refl _,fun id hid=>by simp at hid⟩
    ·cases h
     refine ⟨by simp [upds_len],fun id hid=>?_⟩
     obtain ⟨j,hj⟩:=List.mem_iff_getElem?.1 hid
     obtain ⟨cs,hcs,_⟩:=hp j id hj
     exact ⟨cs,hcs⟩
theorem seeRes_owns {sl:List Res} {Z:Map} {id b:Nat} {r:Option Res}:Owns Z id b (r.map (seeRes P 0 sl))↔Owns Z id b r:=by
 cases r with
 | none=>exact Iff.rfl
 | some r=>cases r<;>exact Iff.rfl
theorem callP_sound {nu:Nat→PV} (hnu:X.nu=nu) {self:Self} (hself:SelfOk P nu self) {s:List Res} {g:FuncId} {args:List PV} {out:Out} (h:callP P self s g args=some out) (hok:X.Ok w)
  {vs:Array Value} (hvs:vs.size=args.length) (hR:∀ (j:Nat) p,args[j]? = some p→R X p (vs.getD j Go.undef)) (hres:∀ id,id∈out.rd∨id∈out.wr→ResOk X w id s[id]?)
  (hnew:∀ id,s.length≤id→id < out.s.length→ResOk X w id none) (hdis:∀ i j b,(i∈out.rd∨i∈out.wr)→(j∈out.rd∨j∈out.wr)→Owns X i b s[i]? → Owns X j b s[j]? → i=j) :
  (∃ fn,P.funcs[g]? = some fn∧(fn.name == "runtime.NumGoroutine")=false∧fn.body.isSome=true)∧Calls P g vs w fun e w'=>∃ v,e = .returned v∧OpPost X w s out v w':=by
 unfold callP at h
 split at h
 ·exact call_sound hnu hself h hok hvs hR (fun id hid=>hres id (.inr hid)) hnew (fun i j b hi hj=>hdis i j b (.inr hi) (.inr hj))
 ·rename_i r0 rws hrows
  generalize hrs:r0::rws=rows at h hrows
  split at h
  ·cases h
  ·rename_i out0 hout0
   split at h
   ·rename_i hsub
    dsimp only at h
    obtain ⟨hlen0,hbox0⟩:=callP0_wr hout0
    rw [List.length_map] at hlen0
    have hbox:∀ id∈out0.wr,∃ cs,s[id]? = some (.box cs):=fun id hid=>by
     obtain ⟨cs,hcs⟩:=hbox0 id hid
     rw [List.getElem?_map] at hcs
     cases hq:s[id]? with
     | none=>rw [hq] at hcs;cases hcs
     | some r =>
      rw [hq] at hcs
      cases r with
      | box cs'=>exact ⟨cs',rfl⟩
      | dead=>cases hcs
      | row e sz n cs'=>cases hcs
    have htouch:(∀ id,(id∈out.rd∨id∈out.wr)↔(id∈out0.wr∨id∈rows))∧out.s.length=out0.s.length∧out.v=out0.v:=by
     split at h
     ·cases h
      refine ⟨fun id=>by simp only [List.mem_append];constructor;(rintro ((h|h)|h);exact .inl h;exact .inr h;exact .inl h);(rintro (h|h);exact .inl (.inl h);exact .inl (.inr h)),?_,rfl⟩
      simp [mergeS_len];omega
     ·cases h
      refine ⟨fun id=>by simp only [List.mem_append];constructor;(rintro (h|(h|h));exact .inl h;exact .inl h;exact .inr h);(rintro (h|h);exact .inl h;exact .inr (.inr h)),?_,rfl⟩
      simp [kill_len,mergeS_len];omega
    obtain ⟨ht,hlen,hov⟩:=htouch
    have hres1:∀ id,id∈rows→ResOk X w id s[id]?:=fun id hid=>hres id ((ht id).2 (.inr hid))
    have hres2:∀ id,id∈out0.wr→ResOk X w id s[id]?:=fun id hid=>hres id ((ht id).2 (.inl hid))
    have hdis':∀ i j b,(i∈out0.wr∨i∈rows)→(j∈out0.wr∨j∈rows)→Owns X i b s[i]? → Owns X j b s[j]? → i=j:=fun i j b hi hj=>hdis i j b ((ht i).2 hi) ((ht j).2 hj)
    have hlend:=lend_le (s:=fun i=>s[i]?) (S:=fun id=>id∈rows) hres1
    generalize hXl:X.lend w (fun i=>s[i]?) (fun id=>id∈rows)=Xl at hlend
    have hXmb:Xl.mb=X.mb:=by rw [← hXl];rfl
    have hXmt:Xl.mt=X.mt:=by rw [← hXl];rfl
    have hXM:∀ b o,¬ lendC X (fun i=>s[i]?) (fun id=>id∈rows) b o→Xl.M b o=X.M b o:=fun b o hc=>by rw [← hXl];exact if_neg hc
    have hownl:∀ id b r,Owns Xl id b r↔Owns X id b r:=fun id b r=>by
     cases r with
     | none=>exact Iff.rfl
     | some r=>cases r<;>simp only [Owns,hXmb,hXmt]
    have hargs:∀ (j:Nat) p,(args.map (see1 P 0 s))[j]? = some p→R Xl p (vs.getD j Go.undef):=fun j p hp=>by
     obtain ⟨q,hq,rfl⟩:=map_get hp
     rw [← hXl]
     refine (hR j q hq).see1 hres1 (fun g hg _=>?_)
     rw [← hrows]
     exact List.mem_append.2 (.inl (List.mem_flatMap.2 ⟨q,List.mem_of_getElem? hq,hg⟩))
    have hbres:∀ id∈out0.wr,ResOk Xl w id ((s.map (seeRes P 0 s))[id]?):=fun id hid=>by
     obtain ⟨cs,hcs⟩:=hbox id hid
     have hr:=hres2 id hid
     have hdisb:=hdis' id
     rw [hcs] at hr
     obtain ⟨b,us,e,a1,a2,a3,a4,a5,a6,a7⟩:=hr
     rw [List.getElem?_map,hcs]
     refine ⟨b,us,e,by rw [hXmb];exact a1,a2,by simpa using a3,fun o=>?_,fun j c hc=>?_,a6,fun n=>by rw [hXmt];exact a7 n⟩
     ·rw [hXM b o ?_];exact a4 o
      rintro ⟨id',e',sz',n',cs',cap',h1,h2,h3,h4⟩
      have:=hdis' id id' b (.inl hid) (.inr h1) (by rw [hcs];exact a1) (by show Owns X id' b (s[id']?);rw [show s[id']? = _ from h2];exact ⟨cap',h3⟩)
      subst this
      rw [show s[id]? = _ from h2] at hcs;cases hcs
     ·obtain ⟨q,hq,rfl⟩:=map_get hc
      rw [← hXl]
      refine (a5 j q hq).see0 hres1 (fun g n hg _=>?_)
      subst hg
      have hm:g∈rowsIn s out0.wr:=by
       unfold rowsIn
       refine List.mem_flatMap.2 ⟨id,hid,?_⟩
       rw [hcs]
       exact List.mem_flatMap.2 ⟨_,List.mem_of_getElem? hq,by simp [rows1,rows0]⟩
      have:=List.all_eq_true.1 hsub g hm
      simpa using this
    obtain ⟨hfn,hcall⟩:=call_sound (X:=Xl) (by rw [← hXl];exact hnu) hself hout0 (by rw [← hXl];exact lend_ok hok) (by simpa using hvs) hargs hbres
     (fun id h1 h2=>by
      have:=hnew id (by simpa using h1) (by omega)
      exact ⟨by rw [hXmb];exact this.1,fun n=>by rw [hXmt];exact this.2 n⟩)
     (fun i j b hi hj ho1 ho2=>by
      rw [List.getElem?_map,seeRes_owns,hownl] at ho1 ho2
      exact hdis' i j b (.inl hi) (.inl hj) ho1 ho2)
    refine ⟨hfn,hcall.mono ?_⟩
    rintro e w' ⟨v,rfl,X',hv,hp⟩
    refine ⟨v,rfl,?_⟩
    simp only [List.length_map] at hp
    have hownm:∀ id b,Owns Xl id b ((s.map (seeRes P 0 s))[id]?)↔Owns X id b (s[id]?):=fun id b=>by rw [List.getElem?_map,seeRes_owns,hownl]
    have hs':∀ id,(mergeS out0.wr out0.s 0 s++out0.s.drop s.length)[id]? = if id∈out0.wr∨s.length≤id then out0.s[id]? else s[id]?:=fun id=>by
     by_cases hl:id < s.length
     ·rw [List.getElem?_append_left (by rw [mergeS_len];exact hl),mergeS_get,List.getElem?_eq_getElem hl]
      simp only [Option.map_some,Nat.zero_add]
      by_cases hm:id∈out0.wr
      ·have:out0.wr.contains id=true:=by simpa using hm
       rw [if_pos this,if_pos (.inl hm),List.getD_eq_getElem?_getD,List.getElem?_eq_getElem (by omega)];rfl
      ·have:¬ (out0.wr.contains id=true):=by simpa using hm
       rw [if_neg this,if_neg (by rintro (h|h);exact hm h;omega)]
     ·rw [List.getElem?_append_right (by rw [mergeS_len];omega),mergeS_len,List.getElem?_drop,if_pos (.inr (by omega))]
      congr 1;omega
    split at h
    ·rename_i hflat
     simp only [Bool.and_eq_true] at hflat
     obtain ⟨⟨f1,f2⟩,f3⟩:=hflat
     cases h
     classical
     let Y:Map:={ X' with M:=fun b o=>if lendC X (fun i=>s[i]?) (fun id=>id∈rows) b o then none else X'.M b o }
     have hYM:∀ b o u,Y.M b o=some u→¬ lendC X (fun i=>s[i]?) (fun id=>id∈rows) b o∧X'.M b o=some u:=fun b o u hu=>by
      by_cases hc:lendC X (fun i=>s[i]?) (fun id=>id∈rows) b o
      ·have:Y.M b o=none:=if_pos hc
       rw [this] at hu;cases hu
      ·have:Y.M b o=X'.M b o:=if_neg hc
       exact ⟨hc,by rw [← this];exact hu⟩
     have hYN:∀ b o,¬ lendC X (fun i=>s[i]?) (fun id=>id∈rows) b o→Y.M b o=X'.M b o:=fun b o hc=>if_neg hc
     refine ⟨Y,R.flat2 (X:=X') (Y:=Y) rfl rfl hv f1,⟨⟨fun b o u hu=>?_,fun i b hb=>?_,fun i n q hq=>?_,?_⟩,⟨fun b o u hu=>hp.ok.1 b o u (hYM b o u hu).2,fun g hg=>?_⟩,hp.grow,hp.os,hp.tape,hp.output,fun k hk hnot=>?_,fun b o u hu=>?_,fun id hid=>?_,fun id hid=>?_,fun id b hid ho=>?_,fun i j b hi hj ho1 ho2=>?_⟩⟩
     ·have hc:¬ lendC X (fun i=>s[i]?) (fun id=>id∈rows) b o:=fun hc=>by rw [lend_none hres1 hc] at hu;cases hu
      rw [hYN b o hc]
      exact hp.le.M b o u (hlend.M b o u hu)
     ·exact hp.le.mb i b (by rw [hXmb];exact hb)
     ·exact hp.le.mt i n q (by rw [hXmt];exact hq)
     ·exact hlend.nu.trans hp.le.nu
     ·obtain ⟨arr,e,fr,g1,g2,g3,g4⟩:=hp.ok.2 g hg
      obtain ⟨arr0,_,_,_,k2,k3,k4⟩:=hok.2 g hg
      refine ⟨arr,e,fr,g1,g2,fun j v hv=>?_,g4⟩
      have hsz:arr.size=arr0.size:=by
       cases hga:gArr g with
       | some a=>rw [hga] at g4 k4;rw [g4,k4]
       | none =>
        rw [hga] at g4 k4
        obtain ⟨m,rfl⟩:=g4
        obtain ⟨m',rfl⟩:=k4
        rfl
      have hj:j < arr0.size:=by rw [← hsz];exact (Array.getElem?_eq_some_iff.1 hv).1
      have hx:=k3 j _ (Array.getElem?_eq_getElem hj)
      have hc:¬ lendC X (fun i=>s[i]?) (fun id=>id∈rows) g j:=fun hc=>by rw [lend_none hres1 hc] at hx;cases hx
      rw [hYN g j hc]
      exact g3 j v hv
     ·exact hp.keep k hk (fun id hid ho=>hnot id (by rw [← hlen] at hid;exact hid) ((hownm id k).1 ho))
     ·obtain ⟨hc,hu'⟩:=hYM b o u hu
      rcases hp.fresh b o u hu' with h'|⟨id,hid,ho⟩|h'
      ·rw [hXM b o hc] at h';exact .inl h'
      ·exact .inr (.inl ⟨id,by rw [← hlen] at hid;exact hid,(hownm id b).1 ho⟩)
      ·exact .inr (.inr h')
     ·have:=hp.ids id (fun hh=>hid (by rw [← hlen] at hh;exact hh))
      exact ⟨this.1.trans (by rw [hXmb]),this.2.trans (by rw [hXmt])⟩
     ·have hid':id∈out0.wr∨s.length≤id∧id < out0.s.length:=by rw [← hlen];exact hid
      have hr:=hp.res id hid'
      show ResOk Y w' id _
      rw [hs' id,if_pos (by rcases hid' with h|h;exact .inl h;exact .inr h.1)]
      have hfl:∀ r,out0.s[id]? = some r→flatRes r=true:=fun r hr=>by
       rcases hid' with h|h
       ·have:=List.all_eq_true.1 f2 id h
        rw [List.getD_eq_getElem?_getD,hr] at this;exact this
       ·refine List.all_eq_true.1 f3 r (List.mem_of_getElem? (i:=id - s.length) ?_)
        rw [List.getElem?_drop,show s.length+(id - s.length)=id by omega];exact hr
      cases hq:out0.s[id]? with
      | none=>rw [hq] at hr;exact hr
      | some r =>
       rw [hq] at hr
       have hfr:=hfl r hq
       cases r with
       | dead=>trivial
       | row e sz n cs=>cases hfr
       | box cs =>
        obtain ⟨b,us,e,a1,a2,a3,a4,a5,a6,a7⟩:=hr
        refine ⟨b,us,e,a1,a2,a3,fun o=>?_,fun j c hc=>R.flat1 (X:=X') (Y:=Y) rfl rfl (a5 j c hc) (List.all_eq_true.1 hfr c (List.mem_of_getElem? hc)),a6,a7⟩
        cases hv:Y.M b o with
        | none=>rfl
        | some u=>have:=(hYM b o u hv).2;rw [a4] at this;cases this
     ·have hid':id∈out0.wr∨s.length≤id∧id < out0.s.length:=by rw [← hlen];exact hid
      have ho':Owns X' id b (out0.s[id]?):=by
       have h1:Owns Y id b _:=ho
       rw [hs' id,if_pos (by rcases hid' with h|h;exact .inl h;exact .inr h.1)] at h1
       cases hq:out0.s[id]? with
       | none=>rw [hq] at h1;exact h1.elim
       | some r=>rw [hq] at h1;cases r<;>exact h1
      rcases hp.own id b hid' ho' with h'|h'
      ·exact .inl ((hownm id b).1 h')
      ·exact .inr h'
     ·have key:∀ i,(i∈out0.wr∨s.length≤i∧i < out0.s.length)→Owns Y i b ((mergeS out0.wr out0.s 0 s++out0.s.drop s.length)[i]?)→Owns X' i b (out0.s[i]?):=fun i hi' h1=>by
       rw [hs' i,if_pos (by rcases hi' with h|h;exact .inl h;exact .inr h.1)] at h1
       cases hq:out0.s[i]? with
       | none=>rw [hq] at h1;exact h1.elim
       | some r=>rw [hq] at h1;cases r<;>exact h1
      have hi':i∈out0.wr∨s.length≤i∧i < out0.s.length:=by rw [← hlen];exact hi
      have hj':j∈out0.wr∨s.length≤j∧j < out0.s.length:=by rw [← hlen];exact hj
      exact hp.dis i j b hi' hj' (key i hi' ho1) (key j hj' ho2)
    ·cases h
     have hrowW:∀ id,(id∈out0.wr++rows∨(s.length≤id∧id < (kill rows (mergeS out0.wr out0.s 0 s++out0.s.drop s.length)).length))↔((id∈out0.wr∨s.length≤id∧id < out0.s.length)∨id∈rows):=fun id=>by
      have hl:(kill rows (mergeS out0.wr out0.s 0 s++out0.s.drop s.length)).length=out0.s.length:=hlen
      rw [hl,List.mem_append]
      constructor
      ·rintro ((h|h)|h);exact .inl (.inl h);exact .inr h;exact .inl (.inr h)
      ·rintro ((h|h)|h);exact .inl (.inl h);exact .inr h;exact .inl (.inr h)
     have hk:∀ id,((id∈out0.wr∨s.length≤id∧id < out0.s.length)∨id∈rows)→id ∉ rows→(kill rows (mergeS out0.wr out0.s 0 s++out0.s.drop s.length))[id]? = out0.s[id]?:=fun id hid hn=>by
      rw [kill_get,if_neg hn,hs' id]
      rcases hid with h|h
      ·rw [if_pos (by rcases h with h|h;exact .inl h;exact .inr h.1)]
      ·exact absurd h hn
     have hko:∀ id b,((id∈out0.wr∨s.length≤id∧id < out0.s.length)∨id∈rows)→Owns X' id b ((kill rows (mergeS out0.wr out0.s 0 s++out0.s.drop s.length))[id]?)→id ∉ rows∧Owns X' id b (out0.s[id]?):=fun id b hid ho=>by
      by_cases hn:id∈rows
      ·rw [kill_get,if_pos hn] at ho
       cases hq:(mergeS out0.wr out0.s 0 s++out0.s.drop s.length)[id]? with
       | none=>rw [hq] at ho;exact ho.elim
       | some r=>rw [hq] at ho;exact ho.elim
      ·rw [hk id hid hn] at ho;exact ⟨hn,ho⟩
     refine ⟨X',hv,⟨hlend.trans hp.le,hp.ok,hp.grow,hp.os,hp.tape,hp.output,fun k hk' hnot=>hp.keep k hk' (fun id hid ho=>hnot id ((hrowW id).2 (.inl hid)) ((hownm id k).1 ho)),fun b o u hu=>?_,fun id hid=>?_,fun id hid=>?_,fun id b hid ho=>?_,fun i j b hi hj ho1 ho2=>?_⟩⟩
     ·rcases hp.fresh b o u hu with h'|⟨id,hid,ho⟩|h'
      ·by_cases hc:lendC X (fun i=>s[i]?) (fun id=>id∈rows) b o
       ·obtain ⟨id,e,sz,n,cs,cap,h1,h2,h3,h4⟩:=hc
        exact .inr (.inl ⟨id,(hrowW id).2 (.inr h1),by show Owns X id b (s[id]?);rw [show s[id]? = _ from h2];exact ⟨cap,h3⟩⟩)
       ·rw [hXM b o hc] at h';exact .inl h'
      ·exact .inr (.inl ⟨id,(hrowW id).2 (.inl hid),(hownm id b).1 ho⟩)
      ·exact .inr (.inr h')
     ·have hid':¬ (id∈out0.wr∨s.length≤id∧id < out0.s.length):=fun hh=>hid ((hrowW id).2 (.inl hh))
      have:=hp.ids id hid'
      exact ⟨this.1.trans (by rw [hXmb]),this.2.trans (by rw [hXmt])⟩
     ·have hid':=(hrowW id).1 hid
      show ResOk X' w' id ((kill rows (mergeS out0.wr out0.s 0 s++out0.s.drop s.length))[id]?)
      by_cases hn:id∈rows
      ·rw [kill_get,if_pos hn]
       cases hq:(mergeS out0.wr out0.s 0 s++out0.s.drop s.length)[id]? with
       | some r=>trivial
       | none =>
        have hl:out0.s.length≤id:=by
         have:=List.getElem?_eq_none_iff.1 hq
         simp [mergeS_len] at this;omega
        have hsn:s[id]? = none:=List.getElem?_eq_none (by omega)
        have hr:=hres1 id hn
        rw [hsn] at hr
        have hnw:¬ (id∈out0.wr∨s.length≤id∧id < out0.s.length):=by
         rintro (h|h)
         ·obtain ⟨cs,hcs⟩:=hbox id h;rw [hsn] at hcs;cases hcs
         ·omega
        have:=hp.ids id hnw
        exact ⟨by rw [this.1,hXmb];exact hr.1,fun n=>by rw [this.2,hXmt];exact hr.2 n⟩
      ·rw [hk id hid' hn]
       exact hp.res id (hid'.resolve_right hn)
     ·have hid':=(hrowW id).1 hid
      obtain ⟨hn,ho'⟩:=hko id b hid' ho
      rcases hp.own id b (hid'.resolve_right hn) ho' with h'|h'
      ·exact .inl ((hownm id b).1 h')
      ·exact .inr h'
     ·have hi':=(hrowW i).1 hi
      have hj':=(hrowW j).1 hj
      obtain ⟨n1,o1⟩:=hko i b hi' ho1
      obtain ⟨n2,o2⟩:=hko j b hj' ho2
      exact hp.dis i j b (hi'.resolve_right n1) (hj'.resolve_right n2) o1 o2
   ·cases h
end
open Go Go.RowKit
section
variable {P:Program} {X:Map} {w:World}
theorem toList_some {vs:Array Value} {j:Nat} (h:j < vs.size):vs.toList[j]? = some (vs.getD j Go.undef):=by
 rw [Array.getElem?_toList];exact some_getD h
def Yields1 (P:Program) (K:Value→World→Prop):Result Next→Prop
 | .ok (.value v) w'=>K v w'
 | .ok .skip w'=>K Go.undef w'
 | .ok (.enter f args) w'=>Calls P f args w' fun e w''=>∃ v,e = .returned v∧K v w''
 | _=>False
def OpYields (P:Program) (ρ:Operand→Value) (o:Oper) (w:World) (K:Value→World→Prop):Prop:=Yields1 P K ((execOp ρ o).run P w)
theorem OpPost.same {s:List Res} {p:PV} {v:Value} {rd:List Nat} (hok:X.Ok w) (h:R X p v):OpPost X w s ⟨p,s,rd,[]⟩ v w :=
 ⟨X,h,Post.same hok (fun id hid=>by rcases hid with h|⟨h1,h2⟩<;>first|(simp at h;done)|(dsimp only at h2;omega))⟩
theorem yields_gives {ρ:Operand→Value} {o:Oper} {s:List Res} {p:PV} {m:Sem Value} (he:execOp ρ o=(do pure (.value (← m)))) (hok:X.Ok w) {rd:List Nat} (hg:Gives P X w m p):OpYields P ρ o w (OpPost X w s ⟨p,s,rd,[]⟩):=by
 obtain ⟨v,h1,h2⟩:=hg
 unfold OpYields
 rw [he]
 simp only [Sem.run_bind,h1,Result.andThen_ok,Sem.run_pure,Yields1]
 exact OpPost.same hok h2
theorem pureP_some {s:List Res} {o:Option PV} {out:Out} (h:pureP s o=some out):∃ p,o=some p∧out=⟨p,s,[],[]⟩:=by
 cases o with
 | none=>cases h
 | some p=>cases h;exact ⟨p,rfl,rfl⟩
theorem ROpt.map {ev:Operand→PV} {ρ:Operand→Value} (o:Option Operand) (h:∀ x,o=some x→R X (ev x) (ρ x)):ROpt X (o.map ev) (o.map ρ):=by
 cases o with
 | none=>trivial
 | some x=>exact h x rfl
theorem yields_build {ρ:Operand→Value} {ev:Operand→PV} {parts:Array (Nat × Operand)} (hR:∀ x∈(parts.toList.map (·.2)).toArray,R X (ev x) (ρ x)) :
  (parts.toList.map fun p=>(p.1,ev p.2)).length=(parts.map fun (i,x)=>(i,ρ x)).size ∧
  ∀ (j i:Nat) (p:PV),(parts.toList.map fun p=>(p.1,ev p.2))[j]? = some (i,p)→∃ v,(parts.map fun (i,x)=>(i,ρ x)).toList[j]? = some (i,v)∧R X p v:=by
 refine ⟨by simp,fun j i p hj=>?_⟩
 obtain ⟨⟨k,x⟩,hk,he⟩:=map_get hj
 cases he
 have hm:x∈(parts.toList.map (·.2)).toArray:=by
  simp only [List.mem_toArray,List.mem_map]
  exact ⟨_,List.mem_of_getElem? hk,rfl⟩
 exact ⟨ρ x,by simp [Array.toList_map,hk],hR x hm⟩
theorem load_sound {s:List Res} {t:TypeId} {n:Nat} {pa p:PV} {va:Value} {rd:List Nat} (hn:sizeP P t=some n) (h:loadP s (aggP P t) n pa=some (p,rd)) (ha:R X pa va) (hok:X.Ok w) (hres:∀ id∈rd,ResOk X w id s[id]?) :
  Gives P X w (Instr.loadAt t va) p∧∃ ad,va = .pointer (some ad)∧Gives P X w (loadVar t ad) p:=by
 have key:∀ ad,va = .pointer (some ad)→Gives P X w (loadVar t ad) p→Gives P X w (Instr.loadAt t va) p∧∃ ad,va = .pointer (some ad)∧Gives P X w (loadVar t ad) p:=by
  rintro ad rfl ⟨v,h1,h2⟩
  exact ⟨⟨v,by simp only [Instr.loadAt,Instr.sureAddr,Sem.run_bind,Sem.run_pure,Result.andThen_ok,h1],h2⟩,ad,rfl,v,h1,h2⟩
 unfold loadP at h
 split at h
 ·rename_i id off
  split at h
  ·rename_i cs hcs
   split at h
   ·rename_i q hq
    cases h
    have hr:=hres id (by simp)
    rw [hcs] at hr
    obtain ⟨b,vs,e,a1,a2,a3,a4,a5,a6,a7⟩:=hr
    cases ha with
    | box _ _ b' hb =>
     rw [a1] at hb;cases hb
     refine key _ rfl (gives_loadVar hn (fun j=>vs.getD (off+j) Go.undef) (fun j c hj=>?_) (fun j c hj=>?_) (fun j c hj=>?_) hq)
     ·rw [List.getElem?_drop] at hj
      rw [cell_of_row _ _ _ _ _ _ a2]
      exact some_getD (by have:=lt_of_get hj;omega)
     ·rw [List.getElem?_drop] at hj
      exact a5 _ _ hj
     ·rw [List.getElem?_drop] at hj
      exact a6 _ (Array.mem_of_getElem? (some_getD (by have:=lt_of_get hj;omega)))
   ·cases h
  ·cases h
 ·rename_i cs
  split at h
  ·rename_i q hq
   cases h
   cases ha with
   | ref _ b o u h1 h2 h3 =>
    exact key _ rfl (gives_loadVar hn u (fun j c hj=>hok.1 _ _ _ (h1 j c hj)) h2 (fun j c hj=>(h3 j c hj).1) hq)
  ·cases h
 ·rename_i g k off
  split at h
  ·rename_i e sz k' cs hcs
   split at h
   ·rename_i hk
    subst hk
    split at h
    ·rename_i q hq
     cases h
     have hr:=hres g (by simp)
     rw [hcs] at hr
     obtain ⟨b,cap,vs,a1,a2,a3,a4,a5,a6,a7,a8,a9,b1,b2,b3⟩:=hr
     have hnc:k*sz≤cap*sz:=Nat.mul_le_mul_right _ a2
     cases ha with
     | rp _ _ _ b' cap' hb =>
      rw [a1] at hb;cases hb
      refine key _ rfl (gives_loadVar hn (fun j=>vs.getD (off+j) Go.undef) (fun j c hj=>?_) (fun j c hj=>?_) (fun j c hj=>?_) hq)
      ·rw [List.getElem?_drop] at hj
       rw [cell_of_row _ _ _ _ _ _ a4]
       exact some_getD (vs:=vs) (by have:=lt_of_get hj;rw [a5];omega)
      ·rw [List.getElem?_drop] at hj
       exact b2 _ _ hj
      ·rw [List.getElem?_drop] at hj
       exact b3 _ (Array.mem_of_getElem? (some_getD (vs:=vs) (j:=off+j) (by have:=lt_of_get hj;rw [a5];omega)))
    ·cases h
   ·cases h
  ·cases h
 ·cases h
theorem newBox_sound {s:List Res} {pv:PV} {v:Value} {out:Out} (h:newBoxP s pv=some out) (hR:R X pv v) (hok:X.Ok w) (hnew:∀ id,s.length≤id→id < out.s.length→ResOk X w id none) (t:TypeId) :
  OpPost X w s out (.pointer (some ⟨w.heap.size,0,none⟩)) (w.alloc (.cells v.cells t))∧∀ id,id < s.length→out.s[id]? = s[id]?:=by
 unfold newBoxP at h
 split at h
 ·rename_i cs hcs
  cases h
  obtain ⟨c1,c2,c3⟩:=hR.cells hcs
  have hp:=post_box (s:=fun i=>s[i]?) (s':=fun i=>(s++[.box cs])[i]?) hok (hnew s.length (Nat.le_refl _) (by simp)) (cs:=cs) (vs:=v.cells) (by simp) c1 c2 c3 t (W:=fun id=>id∈([]:List Nat)∨(s.length≤id∧id < (s++[Res.box cs]).length)) (fun i=>by simp;omega)
  exact ⟨⟨_,hp.2,hp.1⟩,fun id hid=>List.getElem?_append_left hid⟩
 ·cases h
theorem run_newVar (t:TypeId) (v:Value):(newVar t v).run P w = .ok ⟨w.heap.size,0,none⟩ (w.alloc (.cells v.cells t)):=by
 simp [newVar,newRow]
theorem enters_d {f:FuncId} {fn:Func} (hf:P.funcs[f]? = some fn) (hname:(fn.name == "runtime.NumGoroutine")=false) (hb:fn.body.isSome=true) (args:Array Value) (w:World) :
  (callFunc f args).run P w = .ok (.enter f args) w:=by
 have hn:fn.body.isNone=false:=by cases h:fn.body<;>simp [h] at hb ⊢
 simp only [callFunc,Sem.run_bind,run_program,Result.andThen_ok,hf,hname,hn,Bool.false_eq_true,if_false,Sem.run_pure]
theorem run_max {k:IntKind} {a b:Int} (ts:Array TypeId) (ty:TypeId) (k':IntKind):(Builtin.max_ ts ty #[.int k a, .int k' b]).run P w = .ok (.int k (if b > a then b else a)) w:=by
 simp [Builtin.max_,Builtin.max2]
theorem run_min {k:IntKind} {a b:Int} (ts:Array TypeId) (ty:TypeId) (k':IntKind):(Builtin.min_ ts ty #[.int k a, .int k' b]).run P w = .ok (.int k (if b < a then b else a)) w:=by
 simp [Builtin.min_,Builtin.min2]
theorem ownSlice_len {s:List Res} {t:TypeId} {n:Nat} {pp:List (Nat × PV)} {out:Out} (h:ownSliceP P s t n pp=some out):s.length < out.s.length:=by
 unfold ownSliceP at h
 split at h
 ·split at h
  ·split at h
   ·split at h
    ·split at h
     ·cases h;simp
     ·cases h
    ·cases h
   ·cases h
  ·cases h
 ·cases h
theorem makeSlice_len {s:List Res} {t:TypeId} {l c:PV} {out:Out} (h:makeSliceP P s t l c=some out):s.length < out.s.length:=by
 unfold makeSliceP at h
 split at h
 ·split at h
  ·split at h
   ·split at h
    ·exact ownSlice_len h
    ·cases h
   ·cases h
  ·cases h
 ·cases h
theorem op_sound {nu : Nat → PV} (hnu : X.nu = nu) {self : Self} (hself : SelfOk P nu self) {s : List Res} {ev : Operand → PV} {ρ : Operand → Value} {o : Oper} {out : Out} {own : TypeId → Nat → Bool} (h : stepOp P own self s ev o.op = some out) (hok : X.Ok w)
    (hR : ∀ x ∈ o.op.operands, R X (ev x) (ρ x)) (hres : ∀ id, id ∈ out.rd ∨ id ∈ out.wr → ResOk X w id s[id]?)
    (hnew : ∀ id, s.length ≤ id → id < out.s.length → ResOk X w id none) (hdis : ∀ i j b, (i ∈ out.rd ∨ i ∈ out.wr) → (j ∈ out.rd ∨ j ∈ out.wr) → Owns X i b s[i]? → Owns X j b s[j]? → i = j) :
    OpYields P ρ o w (OpPost X w s out) := by
  unfold stepOp at h
  split at h
  ·
    rename_i x ho
    cases h
    rw [ho] at hR
    exact yields_gives (m := pure (ρ x)) (by unfold execOp; rw [ho]; rfl) hok ⟨_, rfl, hR x (by simp [Op.operands])⟩
  · rename_i x ho
    cases h
    rw [ho] at hR
    exact yields_gives (m := pure (ρ x)) (by unfold execOp; rw [ho]; rfl) hok ⟨_, rfl, hR x (by simp [Op.operands])⟩
  ·
    rename_i c a b ho
    rw [ho] at hR
    split at h
    · rename_i t ht
      cases h
      have hc := hR c (by simp [Op.operands])
      rw [ht] at hc
      generalize hv : ρ c = vc at hc
      cases hc
      refine yields_gives (m := pure (if t then ρ a else ρ b)) (by unfold execOp; rw [ho]; simp [hv, asBool]) hok ⟨_, rfl, ?_⟩
      cases t
      · exact hR b (by simp [Op.operands])
      · exact hR a (by simp [Op.operands])
    · cases h
  ·
    rename_i t ho
    split at h
    · rename_i z hz
      obtain ⟨v, hv, hzR⟩ := zeroP_spec (w := w) hz
      unfold OpYields execOp
      rw [ho]
      simp only [Instr.alloc, Sem.run_bind, hv, Result.andThen_ok, run_newVar, Sem.run_pure, Yields1]
      exact (newBox_sound h (hzR X) hok hnew t).1
    · cases h
  ·
    rename_i t x ho
    rw [ho] at hR
    unfold OpYields execOp
    rw [ho]
    simp only [Instr.box, Sem.run_bind, Result.andThen_ok, run_newVar, Sem.run_pure, Yields1]
    exact (newBox_sound h (hR x (by simp [Op.operands])) hok hnew t).1
  ·
    rename_i t parts ho
    rw [ho] at hR
    obtain ⟨p, hp, rfl⟩ := pureP_some h
    obtain ⟨h1, h2⟩ := yields_build (ρ := ρ) (ev := ev) hR
    exact yields_gives (by unfold execOp; rw [ho]) hok (gives_build h1 h2 hp)
  ·
    rename_i t n parts ho
    rw [ho] at hR
    obtain ⟨h1, h2⟩ := yields_build (ρ := ρ) (ev := ev) hR
    split at h
    · obtain ⟨v, w', X', r1, r2, r3⟩ := post_ownSlice hok h1 h2 h (hnew s.length (Nat.le_refl _) (ownSlice_len h))
      unfold OpYields execOp
      rw [ho]
      simp only [Sem.run_bind, r1, Result.andThen_ok, Sem.run_pure, Yields1]
      exact ⟨X', r3, r2⟩
    obtain ⟨p, hp, rfl⟩ := pureP_some h
    obtain ⟨v, w', X', r1, r2, r3⟩ := post_buildSlice (s := fun i => s[i]?) (s' := fun i => s[i]?) (W := fun id => id ∈ ([] : List Nat) ∨ (s.length ≤ id ∧ id < s.length)) hok h1 h2 hp (fun i hi => by rcases hi with hi | hi <;> first | (simp at hi; done) | omega)
    unfold OpYields execOp
    rw [ho]
    simp only [Sem.run_bind, r1, Result.andThen_ok, Sem.run_pure, Yields1]
    exact ⟨X', r3, r2⟩
  ·
    rename_i t l c ho
    rw [ho] at hR
    obtain ⟨v, w', X', r1, r2, r3⟩ := post_makeSlice hok (hR l (by simp [Op.operands])) (hR c (by simp [Op.operands])) h (hnew s.length (Nat.le_refl _) (makeSlice_len h))
    unfold OpYields execOp
    rw [ho]
    simp only [Sem.run_bind, r1, Result.andThen_ok, Sem.run_pure, Yields1]
    exact ⟨X', r3, r2⟩
  ·
    rename_i t a ho
    rw [ho] at hR
    split at h
    · rename_i n hn
      split at h
      · rename_i v rd hl
        cases h
        exact yields_gives (by unfold execOp; rw [ho]) hok (load_sound hn hl (hR a (by simp [Op.operands])) hok (fun id hid => hres id (.inl hid))).1
      · cases h
    · cases h
  ·
    rename_i t a x ho
    rw [ho] at hR
    split at h
    · rename_i n hn
      split at h
      · rename_i s' wr hst
        cases h
        have ha := hR a (by simp [Op.operands])
        have hx := hR x (by simp [Op.operands])
        unfold storeP at hst
        split at hst
        · rename_i id off ns e1 e2
          split at hst
          · rename_i cs hcs
            split at hst
            · rename_i hc
              obtain ⟨c1, c2⟩ := hc
              cases hst
              rw [e1] at ha
              have hr := hres id (.inr (by simp))
              rw [hcs] at hr
              obtain ⟨b, vs, e, a1, a2, a3, a4, a5, a6, a7⟩ := hr
              generalize hva : ρ a = va at ha
              cases ha with
              | box _ _ b' hb =>
                rw [a1] at hb; cases hb
                obtain ⟨d1, d2, d3⟩ := hx.cells e2
                have hlt := lt_of_get hcs
                obtain ⟨r1, r2⟩ := post_store (P := P) (s := fun i => s[i]?) (s' := fun i => (s.set id (.box (setAt cs off ns)))[i]?) hok hcs a1 a2 a3 a4 a5 a6 a7 d1 c2 d2 d3 (by simp [hlt]) (W := fun i => i ∈ [id] ∨ (s.length ≤ i ∧ i < (s.set id (.box (setAt cs off ns))).length)) (fun i => by simp; omega)
                unfold OpYields execOp
                rw [ho]
                have hsz : ¬ ((ρ x).cells.size ≠ n) := by omega
                simp only [Instr.storeAt, hva, Instr.sureAddr, storeVar, Sem.run_bind, Sem.run_pure, Result.andThen_ok, run_sizeOf hn, Sem.run_ite, if_neg hsz, r1, Yields1]
                exact ⟨X, .undef, r2⟩
            · cases hst
          · cases hst
        · rename_i g k off ns e1 e2
          split at hst
          · rename_i e sz k' cs hcs
            split at hst
            · rename_i hc
              obtain ⟨rfl, c1, c2⟩ := hc
              cases hst
              rw [e1] at ha
              have hr := hres g (.inr (by simp))
              rw [hcs] at hr
              obtain ⟨b, cap, vs, a1, a2, a3, a4, a5, a6, a7, a8, a9, b1, b2, b3⟩ := hr
              have hnc : k * sz ≤ cap * sz := Nat.mul_le_mul_right _ a2
              generalize hva : ρ a = va at ha
              cases ha with
              | rp _ _ _ b' cap' hb =>
                rw [a1] at hb; cases hb
                obtain ⟨d1, d2, d3⟩ := hx.cells e2
                have hlt := lt_of_get hcs
                have hul : (ρ x).cells.toList.length = ns.length := by simpa using d1
                have hrun := run_storeCells_at P b off e (ρ x).cells.toList 0 vs w a4 (by simp only [Nat.add_zero]; rw [hul, a5]; omega) (fun v hv => d3 v (by simpa using hv))
                simp only [Nat.add_zero] at hrun
                have hvl : vs.toList.length = cap * sz := by simpa using a5
                have hsp := splice_get vs.toList off (ρ x).cells.toList (by omega)
                have hD : ∀ (l : List Value) (k : Nat) (q : Value), l[k]? = some q → l.toArray.getD k Go.undef = q := fun l k q hq => getD_of (by simpa using hq)
                obtain ⟨p1, p2⟩ := post_row (s := fun i => s[i]?) (s' := fun i => (s.set g (.row e sz k (setAt cs off ns)))[i]?) (W := fun i => i ∈ [g] ∨ (s.length ≤ i ∧ i < (s.set g (Res.row e sz k (setAt cs off ns))).length)) (k := k) (cap := cap) (cs := setAt cs off ns) hok (fun i => by simp; omega)
                  (setRow_heap w b vs (vs.toList.take off ++ (ρ x).cells.toList ++ vs.toList.drop (off + (ρ x).cells.toList.length)).toArray e _ a4) (by
                    simp only [List.size_toArray, List.length_append, List.length_take, List.length_drop]; omega) a2 a3 a6 a9 (by rw [setAt_len _ _ _ c2, b1]) (fun j c hj => by
                    rw [setAt_get _ _ _ c2] at hj
                    have hget := hsp j
                    by_cases k1 : j < off
                    · rw [if_pos k1] at hj hget
                      have hjl := lt_of_get hj
                      rw [hD _ _ _ (hget.trans (toList_some (vs := vs) (j := j) (by rw [a5]; omega)))]; exact b2 j c hj
                    · rw [if_neg k1] at hj hget
                      by_cases k2 : j < off + ns.length
                      · rw [if_pos k2] at hj
                        rw [if_pos (by omega)] at hget
                        have hjl := lt_of_get hj
                        rw [hD _ _ _ (hget.trans (toList_some (vs := (ρ x).cells) (j := j - off) (by omega)))]; exact d2 _ c hj
                      · rw [if_neg k2] at hj
                        rw [if_neg (by omega)] at hget
                        have hjl := lt_of_get hj
                        rw [hD _ _ _ (hget.trans (toList_some (vs := vs) (j := j) (by rw [a5]; omega)))]; exact b2 j c hj) (fun v hv => by
                    simp only [List.mem_toArray, List.mem_append] at hv
                    rcases hv with (hv | hv) | hv
                    · exact b3 v (by simpa using List.mem_of_mem_take hv)
                    · exact d3 v (by simpa using hv)
                    · exact b3 v (by simpa using List.mem_of_mem_drop hv)) (fun i _ hi => setRow_other w b i _ hi) (by simp) rfl rfl rfl (.inl (by show Owns X g b (s[g]?); rw [hcs]; exact ⟨cap, a1⟩)) (by simp [hlt]) (.inr a1) a7 a8
                unfold OpYields execOp
                rw [ho]
                have hsz : ¬ ((ρ x).cells.size ≠ n) := by omega
                simp only [Instr.storeAt, hva, Instr.sureAddr, storeVar, Sem.run_bind, Sem.run_pure, Result.andThen_ok, run_sizeOf hn, Sem.run_ite, if_neg hsz, hrun, Yields1]
                exact ⟨_, .undef, p1⟩
            · cases hst
          · cases hst
        · cases hst
      · cases h
    · cases h
  ·
    rename_i x ho
    rw [ho] at hR
    have hx := hR x (by simp [Op.operands])
    split at h
    all_goals
      first
        | (cases h; done)
        | (rename_i e
           cases h
           rw [e] at hx
           generalize hv : ρ x = v at hx
           have hx' := hx
           cases hx
           refine yields_gives (m := pure (ρ x)) (by unfold execOp; rw [ho]; simp only [hv]; rfl) hok ⟨_, rfl, ?_⟩
           rw [hv]; exact hx')
  ·
    rename_i op t x y yt ho
    rw [ho] at hR
    obtain ⟨p, hp, rfl⟩ := pureP_some h
    exact yields_gives (by unfold execOp; rw [ho]) hok (gives_bin hp (hR x (by simp [Op.operands])) (hR y (by simp [Op.operands])))
  ·
    rename_i op t x ho
    rw [ho] at hR
    obtain ⟨p, hp, rfl⟩ := pureP_some h
    exact yields_gives (by unfold execOp; rw [ho]) hok (gives_un hp (hR x (by simp [Op.operands])))
  ·
    rename_i src dst x ho
    rw [ho] at hR
    have hx := hR x (by simp [Op.operands])
    split at h
    · rename_i g n hev
      rw [hev] at hx
      unfold rowBytesP at h
      split at h
      · rename_i e hs hd
        split at h
        · rename_i et n' cs he hg
          split at h
          · rename_i hn
            subst hn
            split at h
            · rename_i l hl
              cases h
              obtain ⟨ns, rfl, rfl⟩ := bytesOf_ints _ _ hl
              have hr := hres g (.inl (by simp))
              rw [hg] at hr
              obtain ⟨b, cap, vs, a1, a2, a3, a4, a5, a6, a7, a8, a9, b1, b2, b3⟩ := hr
              have hlen : ns.length = n := by simpa using b1
              generalize hv : ρ x = vx at hx
              cases hx with
              | ms _ _ b' cap' hm =>
                rw [a1] at hm; cases hm
                have hl2 := run_loadCells_u (P := P) (w := w) (b := b) (o := 0) (n := n) (fun j => (ns.map (Value.int .u8)).getD j Go.undef) (fun j hj => by
                  rw [Nat.zero_add, cell_of_row _ _ _ _ _ _ a4, some_getD (vs := vs) (j := j) (by omega)]
                  have := b2 j (.int .u8 (ns[j]'(by omega))) (by simp [show j < ns.length by omega])
                  have e1 : (ns.map (Value.int .u8)).getD j Go.undef = .int .u8 (ns[j]'(by omega)) := by simp [show j < ns.length by omega]
                  rw [e1]
                  generalize vs.getD j Go.undef = q at this
                  cases this; rfl)
                have hm2 : (List.range n).map (fun j => (ns.map (Value.int .u8)).getD j Go.undef) = ns.map (Value.int .u8) := by
                  apply List.ext_getElem
                  · simp [hlen]
                  · intro j h1 h2
                    simp at h1
                    simp [show j < ns.length by omega]
                rw [hm2] at hl2
                have hrb := run_bytesToString w ⟨b, 0, none⟩ n cap ns hl2
                have hf := foldl_push ns ByteArray.empty
                have h0 : ByteArray.empty.data.toList = [] := rfl
                rw [h0, List.nil_append] at hf
                refine yields_gives (m := convert src dst (ρ x)) (by unfold execOp; rw [ho]) hok ⟨_, ?_, by rw [← hf]; exact .str _⟩
                rw [hv]
                simp only [convert, Sem.run_bind, run_underlying hs, run_underlying hd, Result.andThen_ok, run_underlying he]
                exact hrb
            · cases h
          · cases h
        · cases h
      · cases h
    · obtain ⟨p, hp, rfl⟩ := pureP_some h
      exact yields_gives (by unfold execOp; rw [ho]) hok (gives_conv hok hp hx)
  ·
    rename_i g first captured ho
    rw [ho] at hR
    cases h
    refine yields_gives (m := Instr.makeFunc (.func g) (first.map ρ) (captured.map ρ)) (by unfold execOp; rw [ho]) hok ⟨_, rfl, .fn g _ _ _ _ (by simp) (by simp) (fun j c hj => ?_) (fun j c hj => ?_)⟩
    · obtain ⟨x, hx, rfl⟩ := map_get hj
      have : (first.map ρ).getD j Go.undef = ρ x := getD_of (by simp at hx; simp [hx])
      rw [this]
      exact hR x (by simp only [Op.operands, Array.mem_append]; exact .inl (by simpa using List.mem_of_getElem? hx))
    · obtain ⟨x, hx, rfl⟩ := map_get hj
      have : (captured.map ρ).getD j Go.undef = ρ x := getD_of (by simp at hx; simp [hx])
      rw [this]
      exact hR x (by simp only [Op.operands, Array.mem_append]; exact .inr (by simpa using List.mem_of_getElem? hx))
  ·
    rename_i t x lo hi ho
    rw [ho] at hR
    obtain ⟨p, hp, rfl⟩ := pureP_some h
    refine yields_gives (by unfold execOp; rw [ho]; rfl) hok (gives_slice hp (hR x (by simp [Op.operands])) (ROpt.map lo (fun y hy => hR y ?_)) (ROpt.map hi (fun y hy => hR y ?_)))
    · subst hy; simp [Op.operands]
    · subst hy; simp [Op.operands]
  ·
    rename_i t x f ho
    rw [ho] at hR
    obtain ⟨p, hp, rfl⟩ := pureP_some h
    exact yields_gives (by unfold execOp; rw [ho]) hok (gives_fieldAddr hp (hR x (by simp [Op.operands])))
  ·
    rename_i t x f ho
    rw [ho] at hR
    obtain ⟨p, hp, rfl⟩ := pureP_some h
    exact yields_gives (by unfold execOp; rw [ho]) hok (gives_field hp (hR x (by simp [Op.operands])))
  ·
    rename_i t x i ho
    rw [ho] at hR
    obtain ⟨p, hp, rfl⟩ := pureP_some h
    exact yields_gives (by unfold execOp; rw [ho]) hok (gives_indexAddr hp (hR x (by simp [Op.operands])) (hR i (by simp [Op.operands])))
  ·
    rename_i t x i ho
    rw [ho] at hR
    obtain ⟨p, hp, rfl⟩ := pureP_some h
    exact yields_gives (by unfold execOp; rw [ho]) hok (gives_index hp (hR x (by simp [Op.operands])) (hR i (by simp [Op.operands])))
  ·
    rename_i x i ho
    rw [ho] at hR
    have hx := hR x (by simp [Op.operands])
    split at h
    · rename_i vs e
      obtain ⟨p, hp, rfl⟩ := pureP_some h
      rw [e] at hx
      generalize hv : ρ x = v at hx
      cases hx with
      | tup _ us h1 h2 =>
        refine yields_gives (m := Instr.extract (ρ x) i) (by unfold execOp; rw [ho]) hok ⟨us.getD i Go.undef, ?_, h2 _ _ hp⟩
        rw [hv]
        simp only [Instr.extract]
        rw [some_getD (vs := us) (j := i) (by have := lt_of_get hp; omega)]
        rfl
    · cases h
  ·
    rename_i c ho
    rw [ho] at hR
    have hex : execOp ρ o = (do let d ← resolve ρ c o.type; invoke d.target d.args) := by unfold execOp; rw [ho]
    have hargs : ∀ l, c.args.toList = l → c.args.map ρ = (l.map ρ).toArray := fun l hl => by rw [← hl, ← Array.toList_map, Array.toArray_toList]
    have hmem : ∀ x, x ∈ c.args.toList → R X (ev x) (ρ x) := fun x hx => hR x (by simp only [Op.operands, Call.operands, Array.mem_append]; exact .inr (Array.mem_toList_iff.1 hx))
    split at h
    ·
      rename_i x hc hl
      rw [hl] at hmem
      split at h
      · rename_i t ht
        obtain ⟨p, hp, rfl⟩ := pureP_some h
        refine yields_gives (m := Builtin.len_ c.argTypes o.type (c.args.map ρ)) ?_ hok ?_
        · rw [hex]; simp only [resolve, hc]; rfl
        · rw [hargs _ hl]; exact gives_len hp (hmem x (by simp)) ht
      · cases h
    ·
      rename_i a b hc hl
      rw [hl] at hmem
      split at h
      · rename_i t t' hts
        split at h
        · rename_i hteq
          subst hteq
          have hat : c.argTypes = #[t, t] := by rw [← Array.toArray_toList (xs := c.argTypes), hts]
          have hrun : (execOp ρ o) = (do pure (.value (← Builtin.append_ #[t, t] o.type #[ρ a, ρ b]))) := by
            rw [hex]; simp only [resolve, hc, hargs _ hl, hat]; rfl
          have hma := hmem a (by simp)
          have hmb := hmem b (by simp)
          unfold appendP at h
          split at h
          · rename_i e ht
            split at h
            · rename_i sz sy ys hsz hb
              split at h
              · rename_i hc1
                obtain ⟨q1, rfl, q3⟩ := hc1
                rw [hb] at hmb
                split at h
                · rename_i ha
                  split at h
                  · rename_i hc2
                    obtain ⟨k1, k2, k3⟩ := hc2
                    cases h
                    rw [ha] at hma
                    generalize hva : ρ a = va at hma
                    cases hma
                    obtain ⟨v, w', X', r1, r2, r3⟩ := post_append_nil (s := fun i => s[i]?) (s' := fun i => (s ++ [.row e sy ys.length (ys.flatMap PV.cellsD)])[i]?) hok ht hsz q3 hmb (by intro e; simp [e] at k1) k2 k3 (hnew s.length (Nat.le_refl _) (by simp)) (by simp) (W := fun i => i ∈ ([] : List Nat) ∨ (s.length ≤ i ∧ i < (s ++ [Res.row e sy ys.length (ys.flatMap PV.cellsD)]).length)) (fun i => by simp; omega) o.type
                    unfold OpYields
                    rw [hrun]
                    simp only [Sem.run_bind, hva, r1, Result.andThen_ok, Sem.run_pure, Yields1]
                    exact ⟨X', r3, r2⟩
                  · cases h
                · rename_i g n ha
                  split at h
                  · rename_i et st n' cs hg
                    split at h
                    · rename_i hc2
                      obtain ⟨rfl, rfl, rfl, k5, k6⟩ := hc2
                      cases h
                      rw [ha] at hma
                      have hr := hres g (.inr (by simp))
                      rw [hg] at hr
                      have hlt := lt_of_get hg
                      obtain ⟨v, w', X', r1, r2, r3⟩ := post_append_own (s := fun i => s[i]?) (s' := fun i => (s.set g (.row et st (n' + ys.length) (cs ++ ys.flatMap PV.cellsD)))[i]?) hok ht hsz q3 hma hmb k5 k6 hr hg (by simp [hlt]) (W := fun i => i ∈ [g] ∨ (s.length ≤ i ∧ i < (s.set g (Res.row et st (n' + ys.length) (cs ++ ys.flatMap PV.cellsD))).length)) (fun i => by simp; omega) o.type
                      unfold OpYields
                      rw [hrun]
                      simp only [Sem.run_bind, r1, Result.andThen_ok, Sem.run_pure, Yields1]
                      exact ⟨X', r3, r2⟩
                    · cases h
                  · cases h
                · cases h
              · cases h
            · cases h
          · cases h
        · cases h
      · cases h
    ·
      rename_i x y hc hl
      rw [hl] at hmem
      split at h
      · rename_i k a k' b ex ey
        cases h
        have hx := hmem x (by simp)
        have hy := hmem y (by simp)
        rw [ex] at hx
        rw [ey] at hy
        refine yields_gives (m := Builtin.max_ c.argTypes o.type (c.args.map ρ)) ?_ hok ?_
        · rw [hex]; simp only [resolve, hc]; rfl
        · rw [hargs _ hl]
          simp only [List.map_cons, List.map_nil]
          generalize ρ x = vx at hx
          generalize ρ y = vy at hy
          cases hx; cases hy
          exact ⟨_, run_max _ _ _, .int _ _⟩
      · cases h
    ·
      rename_i x y hc hl
      rw [hl] at hmem
      split at h
      · rename_i k a k' b ex ey
        cases h
        have hx := hmem x (by simp)
        have hy := hmem y (by simp)
        rw [ex] at hx
        rw [ey] at hy
        refine yields_gives (m := Builtin.min_ c.argTypes o.type (c.args.map ρ)) ?_ hok ?_
        · rw [hex]; simp only [resolve, hc]; rfl
        · rw [hargs _ hl]
          simp only [List.map_cons, List.map_nil]
          generalize ρ x = vx at hx
          generalize ρ y = vy at hy
          cases hx; cases hy
          exact ⟨_, run_min _ _ _, .int _ _⟩
      · cases h
    ·
      rename_i f hc
      generalize hl : c.args.toList = args at h hmem hargs
      have hf : R X (ev f) (ρ f) := hR f (by simp only [Op.operands, Call.operands, hc, Array.mem_append]; exact .inl (by simp))
      split at h
      · rename_i g first captured hev
        rw [hev] at hf
        generalize hv : ρ f = vf at hf
        cases hf with
        | fn _ _ _ fs cs f1 f2 f3 f4 =>
          have hvs : (fs ++ c.args.map ρ ++ cs).size = (first ++ args.map ev ++ captured).length := by
            have : c.args.size = args.length := by rw [← hl]; simp
            simp only [Array.size_append, Array.size_map, List.length_append, List.length_map]; omega
          have hRa : ∀ (j : Nat) p, (first ++ args.map ev ++ captured)[j]? = some p → R X p ((fs ++ c.args.map ρ ++ cs).getD j Go.undef) := by
            intro j p hj
            have hca : c.args.map ρ = (args.map ρ).toArray := hargs _ rfl
            rw [hca]
            by_cases h1 : j < first.length
            · rw [List.append_assoc, List.getElem?_append_left h1] at hj
              have := f3 j p hj
              refine (getD_of ?_).symm ▸ this
              rw [Array.append_assoc, Array.getElem?_append_left (by omega)]
              exact some_getD (by omega)
            · by_cases h2 : j < first.length + args.length
              · rw [List.getElem?_append_left (by simp; omega), List.getElem?_append_right (by omega)] at hj
                obtain ⟨x, hx, rfl⟩ := map_get hj
                have hRx := hmem x (List.mem_of_getElem? hx)
                refine (getD_of (v := ρ x) ?_).symm ▸ hRx
                rw [Array.getElem?_append_left (by simp; omega), Array.getElem?_append_right (by omega), f1]
                simp [hx]
              · rw [List.getElem?_append_right (by simp; omega)] at hj
                have := f4 _ p hj
                simp only [List.length_append, List.length_map] at this hj
                have hlt := lt_of_get hj
                refine (getD_of ?_).symm ▸ this
                rw [Array.getElem?_append_right (by simp; omega)]
                simp only [Array.size_append, List.size_toArray, List.length_map, f1]
                exact some_getD (by omega)
          obtain ⟨⟨fn, hfn, hname, hbody⟩, hcall⟩ := callP_sound hnu hself h hok hvs hRa hres hnew hdis
          unfold OpYields
          rw [hex]
          have he := enters_d hfn hname hbody (fs ++ c.args.map ρ ++ cs) w
          simp only [resolve, hc, hv, Deferred.ofValue, Sem.run_bind, Sem.run_pure, Result.andThen_ok, invoke, he, Yields1]
          exact hcall
      · cases h
    · cases h
  · cases h
def RowPost (X:Map) (w w':World) (v:Value) (e:TypeId) (sz n:Nat) (cs:List PV):Prop :=
 ∃ X' b cap us,v = .slice (some ⟨b,0,none⟩) n cap∧w.heap.size≤b∧n≤cap∧cap≤maxLen∧w'.heap[b]? = some (.cells us e (0,0))∧us.size=cap*sz∧(∀ o,X'.M b o=none)∧0 < sz∧cs.length=n*sz ∧
  (∀ (j:Nat) c,cs[j]? = some c→R X' c (us.getD j Go.undef))∧(∀ v∈us,v.oneCell'=true)∧Post X X' w w' (fun _=>none) (fun _=>none) (fun _=>False)
structure OrcOk0 (P:Program) (nu:Nat→PV) (O:Orc):Prop where
 op:∀ o l p,O.op o l=some p→∀ X w (ρ:Operand→Value) (oper:Oper),X.nu=nu→X.Ok w→oper.op=o→(∀ (j:Nat) x q,o.operands.toList[j]? = some x→l[j]? = some q→R X q (ρ x)) →
  ∃ v,(execOp ρ oper).run P w = .ok (.value v) w∧R X p v
 prim:∀ g args r,O.prim g args=some r→(∃ fn,P.funcs[g]? = some fn∧(fn.name == "runtime.NumGoroutine")=false∧fn.body.isSome=true) ∧
  ∀ X w (vs:Array Value),X.nu=nu→vs.size=args.length→(∀ (j:Nat) p,args[j]? = some p→R X p (vs.getD j Go.undef))→X.Ok w →
   Calls P g vs w fun e w'=>∃ v X',e = .returned v∧R X' r v∧Post X X' w w' (fun _=>none) (fun _=>none) (fun _=>False)
 row:∀ g args e sz n cs,O.row g args=some (e,sz,n,cs)→(∃ fn,P.funcs[g]? = some fn∧(fn.name == "runtime.NumGoroutine")=false∧fn.body.isSome=true) ∧
  ∀ X w (vs:Array Value),X.nu=nu→vs.size=args.length→(∀ (j:Nat) p,args[j]? = some p→R X p (vs.getD j Go.undef))→X.Ok w →
   Calls P g vs w fun ex w'=>∃ v,ex = .returned v∧RowPost X w w' v e sz n cs
 st:SelfOk P nu O.st
def noOrc:Orc:={ prim:=fun _ _=>none,op:=fun _ _=>none,own:=fun _ _=>false }
theorem noOrc_ok0 (P:Program) (nu:Nat→PV):OrcOk0 P nu noOrc:=⟨(fun _ _ _ h=>by cases h),(fun _ _ _ h=>by cases h),(fun _ _ _ _ _ _ h=>by cases h),(fun _ _ _ _ _ h=>by cases h)⟩
theorem stepO_cases {O:Orc} {self:Self} {s:List Res} {ev:Operand→PV} {o:Op} {out:Out} (h:stepO P O self s ev o=some out) :
  stepOp P O.own self s ev o=some out∨(∃ p,O.op o (o.operands.toList.map ev)=some p∧out=⟨p,s,[],[]⟩) ∨
  ∃ c f g e sz n cs,o = .call c∧c.callee = .value f∧ev f = .fn g [] []∧O.row g (c.args.toList.map ev)=some (e,sz,n,cs)∧out=⟨.ms s.length n,s++[.row e sz n cs],[],[]⟩:=by
 unfold stepO at h
 split at h
 ·rename_i o' ho
  cases h
  unfold rowCall at ho
  split at ho
  ·rename_i c
   split at ho
   ·rename_i f hf
    split at ho
    ·rename_i g hg
     split at ho
     ·rename_i e sz n cs hr
      cases ho
      exact .inr (.inr ⟨c,f,g,e,sz,n,cs,rfl,hf,hg,hr,rfl⟩)
     ·cases ho
    ·cases ho
   ·cases ho
  ·cases ho
 split at h
 ·rename_i o' ho;cases h;exact .inl ho
 ·split at h
  ·rename_i p hp;cases h;exact .inr (.inl ⟨p,hp,rfl⟩)
  ·cases h
theorem row_post1 {w':World} {s:List Res} {v:Value} {e:TypeId} {sz n:Nat} {cs:List PV} (hn:ResOk X w s.length none) (h:RowPost X w w' v e sz n cs) :
  OpPost X w s ⟨.ms s.length n,s++[Res.row e sz n cs],[],[]⟩ v w':=by
 obtain ⟨X1,b,cap,us,rfl,hb,h1,h2,h3,h4,h5,h6,h7,h8,h9,hp⟩:=h
 have e1:X1.mb=X.mb:=funext fun id=>(hp.ids id (fun h=>h.elim)).1
 have e2:X1.mt=X.mt:=funext fun id=>(hp.ids id (fun h=>h.elim)).2
 let X2:Map:={ X1 with mt:=fun i m=>if i=s.length∧m=n then some (b,cap) else X1.mt i m }
 have hnone:∀ m,X1.mt s.length m=none:=fun m=>by rw [e2];exact hn.2 m
 have hle:X1.Le X2:=by
  refine ⟨fun _ _ _ h=>h,fun _ _ h=>h,fun i m v h=>?_,rfl⟩
  show (if i=s.length∧m=n then some (b,cap) else X1.mt i m)=some v
  split
  ·rename_i hc
   rw [hc.1,hnone] at h;cases h
  ·exact h
 have hmt:X2.mt s.length n=some (b,cap):=if_pos ⟨rfl,rfl⟩
 have hget:(s++[Res.row e sz n cs])[s.length]? = some (.row e sz n cs):=by simp
 have hW:(fun id=>id∈([]:List Nat)∨(s.length≤id∧id < (s++[Res.row e sz n cs]).length))=fun id=>id=s.length:=funext fun id=>propext (by simp;omega)
 refine ⟨X2, .ms _ _ b cap hmt,?_⟩
 show Post X X2 w w' (fun i=>s[i]?) (fun i=>(s++[Res.row e sz n cs])[i]?) (fun id=>id∈([]:List Nat)∨(s.length≤id∧id < (s++[Res.row e sz n cs]).length))
 rw [hW]
 refine ⟨hp.le.trans hle,hp.ok,hp.grow,hp.os,hp.tape,hp.output,fun k hk _=>hp.keep k hk (fun _ h _=>h.elim),fun b' o v hv=>?_,fun id hid=>⟨?_,?_⟩,fun id hid=>?_,fun id b' hid ho=>?_,fun i j b' hi hj _ _=>hi.trans hj.symm⟩
 ·rcases hp.fresh b' o v hv with h'|⟨_,hf,_⟩|h'
  ·exact .inl h'
  ·exact hf.elim
  ·exact .inr (.inr h')
 ·exact congrFun e1 id
 ·funext m
  show (if id=s.length∧m=n then some (b,cap) else X1.mt id m)=X.mt id m
  rw [if_neg (fun h=>hid h.1),e2]
 ·subst hid
  show ResOk X2 w' s.length ((s++[Res.row e sz n cs])[s.length]?)
  rw [hget]
  refine ⟨b,cap,us,hmt,h1,h2,h3,h4,h5,fun k hk=>?_,(congrFun e1 _).trans hn.1,h6,h7,fun j c hc=>(h8 j c hc).mono hle,h9⟩
  show (if s.length=s.length∧k=n then some (b,cap) else X1.mt s.length k)=none
  rw [if_neg (by omega),hnone]
 ·subst hid
  have ho':Owns X2 s.length b' ((s++[Res.row e sz n cs])[s.length]?):=ho
  rw [hget] at ho'
  obtain ⟨cap',hc⟩:=ho'
  rw [hmt] at hc
  cases hc
  exact .inr hb
theorem opO_sound {nu:Nat→PV} (hnu:X.nu=nu) {O:Orc} (hO:OrcOk0 P nu O) {self:Self} (hself:SelfOk P nu self) {s:List Res} {ev:Operand→PV} {ρ:Operand→Value} {o:Oper} {out:Out} (h:stepO P O self s ev o.op=some out) (hok:X.Ok w)
  (hR:∀ x∈o.op.operands,R X (ev x) (ρ x)) (hres:∀ id,id∈out.rd∨id∈out.wr→ResOk X w id s[id]?)
  (hnew:∀ id,s.length≤id→id < out.s.length→ResOk X w id none) (hdis:∀ i j b,(i∈out.rd∨i∈out.wr)→(j∈out.rd∨j∈out.wr)→Owns X i b s[i]? → Owns X j b s[j]? → i=j) :
  OpYields P ρ o w (OpPost X w s out):=by
 rcases stepO_cases h with h|⟨p,hp,rfl⟩|⟨c,f,g,e,sz,n,cs,ho,hc,hf,hrow,rfl⟩
 rotate_left 2
 ·obtain ⟨⟨fn,hfn,hname,hbody⟩,hcall⟩:=hO.row _ _ _ _ _ _ hrow
  have hRf:R X (ev f) (ρ f):=hR f (by rw [ho];simp [Op.operands,Call.operands,hc])
  rw [hf] at hRf
  generalize hv:ρ f=vf at hRf
  cases hRf with
  | fn _ _ _ fs us f1 f2 _ _ =>
   have e1:fs = #[]:=Array.eq_empty_of_size_eq_zero (by simpa using f1)
   have e2:us = #[]:=Array.eq_empty_of_size_eq_zero (by simpa using f2)
   subst e1 e2
   have hex:execOp ρ o=(do let d ← resolve ρ c o.type;invoke d.target d.args):=by unfold execOp;rw [ho]
   have hc2:=hcall X w (c.args.map ρ) hnu (by simp) (fun j p hp=>by
    obtain ⟨x,hx,rfl⟩:=map_get hp
    have hRx:=hR x (by rw [ho];simp only [Op.operands,Call.operands,Array.mem_append];exact .inr (Array.mem_toList_iff.1 (List.mem_of_getElem? hx)))
    refine (getD_of (v:=ρ x) ?_).symm ▸ hRx
    simpa using congrArg (Option.map ρ) hx) hok
   unfold OpYields
   rw [hex]
   have he:=enters_d hfn hname hbody (#[]++c.args.map ρ++#[]) w
   simp only [resolve,hc,hv,Deferred.ofValue,Sem.run_bind,Sem.run_pure,Result.andThen_ok,invoke,he,Yields1]
   simp only [Array.empty_append,Array.append_empty]
   refine hc2.mono ?_
   rintro ex w' ⟨v,he',hp⟩
   exact ⟨v,he',row_post1 (hnew s.length (Nat.le_refl _) (by simp)) hp⟩
 ·exact op_sound hnu hself h hok hR hres hnew hdis
 ·obtain ⟨v,h1,h2⟩:=hO.op _ _ _ hp X w ρ o hnu hok rfl (fun j x q hx hq=>by
   obtain ⟨y,hy,rfl⟩:=map_get hq
   rw [hx] at hy;cases hy
   exact hR x (by simpa using List.mem_of_getElem? hx))
  unfold OpYields
  rw [h1]
  exact OpPost.same hok h2
end
open Go Go.RowKit
section
variable {P:Program} {X:Map} {w:World}
def Keeps (s:List Res) (out:Out):Prop:=s.length≤out.s.length∧∀ id,id < s.length→id ∉ out.wr→out.s[id]? = s[id]?
theorem keeps_same {s:List Res} {v:PV} {rd wr:List Nat}:Keeps s ⟨v,s,rd,wr⟩:=⟨Nat.le_refl _,fun _ _ _=>rfl⟩
theorem keeps_app {s l:List Res} {v:PV} {rd wr:List Nat}:Keeps s ⟨v,s++l,rd,wr⟩:=⟨by simp,fun id hid _=>List.getElem?_append_left hid⟩
theorem keeps_set {s:List Res} {v:PV} {rd:List Nat} {g:Nat} {r:Res}:Keeps s ⟨v,s.set g r,rd,[g]⟩ :=
 ⟨by simp,fun id hid hw=>by simp only [List.mem_singleton] at hw;exact List.getElem?_set_ne (fun e=>hw e.symm)⟩
theorem keeps_own {s:List Res} {t:TypeId} {n:Nat} {pp:List (Nat × PV)} {out:Out} (h:ownSliceP P s t n pp=some out):Keeps s out:=by
 unfold ownSliceP at h
 split at h
 ·split at h
  ·split at h
   ·split at h
    ·split at h
     ·cases h;exact keeps_app
     ·cases h
    ·cases h
   ·cases h
  ·cases h
 ·cases h
theorem keeps_make {s:List Res} {t:TypeId} {l c:PV} {out:Out} (h:makeSliceP P s t l c=some out):Keeps s out:=by
 unfold makeSliceP at h
 split at h
 ·split at h
  ·split at h
   ·split at h
    ·exact keeps_own h
    ·cases h
   ·cases h
  ·cases h
 ·cases h
theorem keeps_append {s:List Res} {t:TypeId} {a b:PV} {out:Out} (h:appendP P s t a b=some out):Keeps s out:=by
 unfold appendP at h
 split at h
 ·split at h
  ·split at h
   ·split at h
    ·split at h
     ·cases h;exact keeps_app
     ·cases h
    ·split at h
     ·split at h
      ·cases h;exact keeps_set
      ·cases h
     ·cases h
    ·cases h
   ·cases h
  ·cases h
 ·cases h
theorem keeps_call0 {self:Self} {s:List Res} {g:FuncId} {args:List PV} {out:Out} (h:callP0 self s g args=some out):Keeps s out:=by
 unfold callP0 at h
 dsimp only at h
 split at h
 ·cases h
 ·split at h
  ·cases h
  ·split at h
   ·cases h
   ·split at h
    ·cases h;exact keeps_same
    ·cases h
     refine ⟨by simp [upds_len],fun id hid hw=>?_⟩
     rw [List.getElem?_append_left (by rw [upds_len];exact hid),upds_other _ _ _ _ hw]
theorem keeps_call {self:Self} {s:List Res} {g:FuncId} {args:List PV} {out:Out} (h:callP P self s g args=some out):Keeps s out:=by
 unfold callP at h
 split at h
 ·exact keeps_call0 h
 ·split at h
  ·cases h
  ·rename_i out0 h0
   split at h
   ·dsimp only at h
    have hm:∀ id,id < s.length→id ∉ out0.wr→(mergeS out0.wr out0.s 0 s++out0.s.drop s.length)[id]? = s[id]?:=fun id hid hn=>by
     rw [List.getElem?_append_left (by rw [mergeS_len];exact hid),mergeS_get,List.getElem?_eq_getElem hid]
     have:¬ (out0.wr.contains (0+id)=true):=by simpa using hn
     simp only [Option.map_some,if_neg this]
    split at h
    ·cases h
     exact ⟨by simp [mergeS_len],fun id hid hn=>hm id hid hn⟩
    ·cases h
     refine ⟨by simp [kill_len,mergeS_len],fun id hid hn=>?_⟩
     rw [List.mem_append,not_or] at hn
     rw [kill_get,if_neg hn.2]
     exact hm id hid hn.1
   ·cases h
theorem stepOp_keeps {self:Self} {s:List Res} {ev:Operand→PV} {o:Op} {out:Out} {own:TypeId→Nat→Bool} (h:stepOp P own self s ev o=some out) :
  s.length≤out.s.length∧∀ id,id < s.length→id ∉ out.wr→out.s[id]? = s[id]?:=by
 have pure1:∀ {q:Option PV},pureP s q=some out→Keeps s out:=fun hq=>by
  obtain ⟨p,_,rfl⟩:=pureP_some hq
  exact keeps_same
 have box1:∀ {v:PV},newBoxP s v=some out→Keeps s out:=fun hq=>by
  unfold newBoxP at hq
  split at hq
  ·cases hq;exact keeps_app
  ·cases hq
 show Keeps s out
 unfold stepOp at h
 split at h
 all_goals first
  | (cases h;done)
  | (cases h;exact keeps_same)
  | exact pure1 h
  | exact box1 h
  | exact keeps_make h
  | skip
 ·split at h
  ·cases h;exact keeps_same
  ·cases h
 ·split at h
  ·exact box1 h
  ·cases h
 ·split at h
  ·exact keeps_own h
  ·exact pure1 h
 ·split at h
  ·split at h
   ·cases h;exact keeps_same
   ·cases h
  ·cases h
 ·split at h
  ·split at h
   ·rename_i hst
    cases h
    unfold storeP at hst
    split at hst
    ·split at hst
     ·split at hst
      ·cases hst;exact keeps_set
      ·cases hst
     ·cases hst
    ·split at hst
     ·split at hst
      ·cases hst;exact keeps_set
      ·cases hst
     ·cases hst
    ·cases hst
   ·cases h
  ·cases h
 ·split at h<;>first|(cases h;done)|(cases h;exact keeps_same)
 ·split at h
  ·unfold rowBytesP at h
   split at h
   ·split at h
    ·split at h
     ·split at h
      ·cases h;exact keeps_same
      ·cases h
     ·cases h
    ·cases h
   ·cases h
  ·exact pure1 h
 ·split at h
  ·exact pure1 h
  ·cases h
 ·split at h
  ·split at h
   ·exact pure1 h
   ·cases h
  ·split at h
   ·split at h
    ·exact keeps_append h
    ·cases h
   ·cases h
  ·split at h
   ·cases h;exact keeps_same
   ·cases h
  ·split at h
   ·cases h;exact keeps_same
   ·cases h
  ·split at h
   ·exact keeps_call h
   ·cases h
  ·cases h
theorem stepO_keeps {O:Orc} {self:Self} {s:List Res} {ev:Operand→PV} {o:Op} {out:Out} (h:stepO P O self s ev o=some out) :
  s.length≤out.s.length∧∀ id,id < s.length→id ∉ out.wr→out.s[id]? = s[id]?:=by
 rcases stepO_cases h with h|⟨p,_,rfl⟩|⟨_,_,_,_,_,_,_,_,_,_,_,rfl⟩
 ·exact stepOp_keeps h
 ·exact ⟨Nat.le_refl _,fun _ _ _=>rfl⟩
 ·exact ⟨by simp,fun id hid _=>by simp [List.getElem?_append_left hid]⟩
abbrev Acc (X0:Map) (w0:World) (s0:Nat→Option Res) (X:Map) (w:World) (s:Nat→Option Res):Prop:=Post X0 X w0 w s0 s (fun _=>True)
theorem Acc.inv {X0:Map} {w0:World} {s0 s:Nat→Option Res} (h:Acc X0 w0 s0 X w s):Inv X w s:=⟨h.ok,fun id=>h.res id trivial,fun i j b=>h.dis i j b trivial trivial⟩
theorem Acc.refl {s:Nat→Option Res} (h:Inv X w s):Acc X w s X w s :=
 ⟨.refl X,h.ok,Nat.le_refl _,rfl,rfl,rfl,fun _ _ _=>rfl,fun _ _ _ hv=>.inl hv,fun _ hn=>(hn trivial).elim,fun id _=>h.res id,fun _ _ _ ho=>.inl ho,fun i j b _ _=>h.dis i j b⟩
theorem Acc.post {X0 X':Map} {w0 w':World} {s0 s s':Nat→Option Res} {W:Nat→Prop} (h:Acc X0 w0 s0 X w s) (p:Post X X' w w' s s' W) (hs:∀ id,¬ W id→s' id=s id):Acc X0 w0 s0 X' w' s':=by
 have hi:=h.inv.post p hs
 refine ⟨h.le.trans p.le,hi.ok,Nat.le_trans h.grow p.grow,p.os.trans h.os,p.tape.trans h.tape,p.output.trans h.output,fun k hk hnot=>?_,fun b o v hv=>?_,fun _ hn=>(hn trivial).elim,fun id _=>hi.res id,fun id b _ ho=>?_,fun i j b _ _=>hi.dis i j b⟩
 ·refine (p.keep k (Nat.lt_of_lt_of_le hk h.grow) (fun id _ ho=>?_)).trans (h.keep k hk hnot)
  rcases h.own id k trivial ho with h'|h'
  ·exact hnot id trivial h'
  ·omega
 ·rcases p.fresh b o v hv with h'|⟨id,_,ho⟩|h'
  ·exact h.fresh b o v h'
  ·rcases h.own id b trivial ho with h'|h'
   ·exact .inr (.inl ⟨id,trivial,h'⟩)
   ·exact .inr (.inr h')
  ·exact .inr (.inr (Nat.le_trans h.grow h'))
 ·by_cases hw:W id
  ·rcases p.own id b hw ho with h'|h'
   ·exact h.own id b trivial h'
   ·exact .inr (Nat.le_trans h.grow h')
  ·rw [hs id hw] at ho
   obtain ⟨i1,i2⟩:=p.ids id hw
   exact h.own id b trivial (Owns.congr i1 i2 ho)
theorem Post.congr {X':Map} {w':World} {s s' t t':Nat→Option Res} {W:Nat→Prop} (p:Post X X' w w' s s' W) (h1:∀ id,W id→s id=t id) (h2:∀ id,W id→s' id=t' id):Post X X' w w' t t' W :=
 ⟨p.le,p.ok,p.grow,p.os,p.tape,p.output,fun k hk hn=>p.keep k hk (fun id hw ho=>hn id hw (h1 id hw ▸ ho)),
  fun b o v hv=>by
   rcases p.fresh b o v hv with h|⟨id,hw,ho⟩|h
   ·exact .inl h
   ·exact .inr (.inl ⟨id,hw,h1 id hw ▸ ho⟩)
   ·exact .inr (.inr h),
  p.ids,fun id hw=>h2 id hw ▸ p.res id hw,fun id b hw ho=>h1 id hw ▸ p.own id b hw (h2 id hw ▸ ho),fun i j b hi hj ho1 ho2=>p.dis i j b hi hj (h2 i hi ▸ ho1) (h2 j hj ▸ ho2)⟩
theorem Owns.lt {s:Nat→Option Res} (h:Inv X w s) {id b:Nat} (ho:Owns X id b (s id)):b < w.heap.size:=(h.res id).lt ho
theorem Acc.heap {X0:Map} {w0 w':World} {s0 s:Nat→Option Res} (h:Acc X0 w0 s0 X w s) (h1:w'.heap=w.heap) (h2:w'.os=w.os) (h3:w'.tape=w.tape) (h4:w'.output=w.output):Acc X0 w0 s0 X w' s:=by
 refine ⟨h.le,h.ok.heap h1,by rw [h1];exact h.grow,h2.trans h.os,h3.trans h.tape,h4.trans h.output,fun k hk hn=>by rw [h1];exact h.keep k hk hn,h.fresh,h.ids,fun id hw=>?_,h.own,h.dis⟩
 exact (h.res id hw).keep (.refl X) rfl rfl (fun b _=>by rw [h1]) (fun _ _ _ _ hv=>hv)
end
open Go Go.RowKit
def namesOf (ops:List Oper) (o:Oper):List Nat :=
 (o.op.operands.toList.filterMap fun | .tmp t=>some t|_=>none)++(match o.guard with|some (j,_)=>(match ops[j]? with|some oj=>oj.dst.toList|none=>[])|none=>[])
def clash (ops:List Oper) (i k:Oper):Bool:=match k.dst with|some d=>(namesOf ops i).contains d||i.dst==some d|none=>false
def regionOk (N:Nat) (ops:List Oper) (draw:Bool):Bool :=
 ops.all (fun o=>match o.dst with|some d=>decide (d < N)|none=>true) &&
 (!draw||(let ms:=masks ops []
  ops.zipIdx.all fun p=>p.1.after.toList.all (fun e=>!Region.binds .any e||decide (e.on < p.2)) &&
   ops.zipIdx.all fun q=>q.2==p.2 || !clash ops p.1 q.1||(if q.2 < p.2 then (ms.getD p.2 0).testBit q.2 else (ms.getD q.2 0).testBit p.2)))
def codeOk (N:Nat):Code→Bool
 | .region _ ops d=>regionOk N ops.toList d
 | .seq a b=>codeOk N a&&codeOk N b
 | .cond _ a b=>codeOk N a&&codeOk N b
 | .block _ b=>codeOk N b
 | .loop b=>codeOk N b
 | .scope b=>codeOk N b
 | _=>true
section
variable {P:Program} {X X0:Map} {w w0:World} {s0:Nat→Option Res}
theorem Slots.put {T:Nat→PV} {a:Act} (h:Slots X T a) {X':Map} (hle:X.Le X') {d:Option Nat} {p:PV} {v:Value} (hR:R X' p v) (hd:∀ k,d=some k→k < a.tmps.size) {T':Nat→PV}
  (hT:∀ t,T' t=if d=some t then p else T t):Slots X' T' (a.put d v):=by
 intro t
 rw [hT]
 cases d with
 | none=>simp only [reduceCtorEq,if_false,Act.put];exact (h t).mono hle
 | some k =>
  have hk:=hd k rfl
  simp only [Act.put,Option.some.injEq]
  by_cases e:k=t
  ·subst e
   rw [if_pos rfl,getD_of (v:=v) (by rw [Array.getElem?_setIfInBounds_self_of_lt hk])]
   exact hR
  ·rw [if_neg e]
   have:(a.tmps.setIfInBounds k v).getD t Go.undef=a.tmps.getD t Go.undef:=by
    simp only [Array.getD_eq_getD_getElem?,Array.getElem?_setIfInBounds_ne e]
   rw [this]
   exact (h t).mono hle
theorem lookup_put (T:List (Nat × PV)) (d:Option Nat) (p:PV) (t:Nat):lookupT (putT T d p) t=if d=some t then p else lookupT T t:=by
 cases d with
 | none=>rfl
 | some k=>simp only [putT,lookupT_cons,Option.some.injEq]
theorem put_size (a:Act) (d:Option Nat) (v:Value):(a.put d v).tmps.size=a.tmps.size:=by cases d<;>simp [Act.put]
theorem put_defers' (a:Act) (d:Option Nat) (v:Value):(a.put d v).defers=a.defers:=by cases d<;>rfl
theorem wanted_sound {ops:Array Oper} {T:List (Nat × PV)} {o:Oper} {b:Bool} {a:Act} (h:wantedP ops.toList T o=some b)
  (hs:∀ j want oj d,o.guard=some (j,want)→ops[j]? = some oj→oj.dst=some d→R X (lookupT T d) (a.tmps.getD d Go.undef)):Region.wanted o (yielded ops a.tmps)=b:=by
 unfold wantedP at h
 unfold Region.wanted
 cases hg:o.guard with
 | none=>rw [hg] at h;cases h;rfl
 | some jw =>
  obtain ⟨j,want⟩:=jw
  rw [hg] at h
  simp only at h ⊢
  cases hj:ops[j]? with
  | none =>
   have:ops.toList[j]? = none:=by simpa using hj
   rw [this] at h
   cases h
   simp [yielded,hj]
  | some oj =>
   have:ops.toList[j]? = some oj:=by simpa using hj
   rw [this] at h
   simp only at h
   cases hd:oj.dst with
   | none=>rw [hd] at h;cases h;simp [yielded,hj,hd]
   | some d =>
    rw [hd] at h
    simp only at h
    have hR:=hs j want oj d hg hj hd
    split at h
    ·rename_i c hc
     cases h
     rw [hc] at hR
     generalize hv:a.tmps.getD d Go.undef=v at hR
     cases hR
     have:a.tmps[d]? = some (.bool c):=by
      rw [Array.getD_eq_getD_getElem?] at hv
      cases hq:a.tmps[d]? with
      | none=>rw [hq] at hv;cases hv
      | some q=>rw [hq] at hv;simp at hv;rw [hv]
     have hy:yielded ops a.tmps j=some c:=by simp [yielded,hj,hd,this]
     rw [hy]
     cases c<;>cases want<;>rfl
    ·rename_i hc
     cases h
     rw [hc] at hR
     generalize hv:a.tmps.getD d Go.undef=v at hR
     cases hR
     have hy:yielded ops a.tmps j=none:=by
      rw [Array.getD_eq_getD_getElem?] at hv
      cases hq:a.tmps[d]? with
      | none=>simp [yielded,hj,hd,hq]
      | some q =>
       rw [hq] at hv
       simp only [Option.getD_some] at hv
       subst hv
       simp only [yielded,hj,Option.bind_some,hd,hq]
       rfl
     rw [hy]
     rfl
    ·cases h
structure Rel (P:Program) (N:Nat) (X0:Map) (w0:World) (s0:Nat→Option Res) (X:Map) (w:World) (T:Nat→PV) (s:Nat→Option Res) (a:Act):Prop where
 acc:Acc X0 w0 s0 X w s
 slots:Slots X T a
 size:N≤a.tmps.size
 defers:a.defers=[]
theorem step_sound {nu:Nat→PV} (hnu:X0.nu=nu) {O:Orc} (hO:OrcOk0 P nu O) {self:Self} (hself:SelfOk P nu self) {N:Nat} {T:Nat→PV} {s:Nat→Option Res} {a:Act} (hrel:Rel P N X0 w0 s0 X w T s a) {ops:Array Oper} {i:Nat} {o:Oper} (ho:ops[i]? = some o)
  {st st':St} {rd wr:List Nat} (h:stepAt P O self ops.toList o st=some (st',rd,wr)) (hd:∀ d,o.dst=some d→d < N)
  (hT:∀ t∈namesOf ops.toList o,T t=lookupT st.T t) (hs:∀ id,(id∈rd∨id∈wr∨(st.s.length≤id∧id < st'.s.length))→s id=st.s[id]?) {Q:Exit→Act→World→Prop} {K:Act→World→Prop}
  (hK:∀ X' w' a' T' s',Rel P N X0 w0 s0 X' w' T' s' a'→(∀ t,T' t=if o.dst=some t then lookupT st'.T t else T t)→(∀ id,s' id=if id∈wr∨(st.s.length≤id∧id < st'.s.length) then st'.s[id]? else s id)→K a' w') :
  wpOp P ops Q i K a w:=by
 unfold stepAt at h
 have hguard:∀ b,wantedP ops.toList st.T o=some b→Region.wanted o (yielded ops a.tmps)=b:=fun b hb=>by
  refine wanted_sound (X:=X) hb (fun j want oj d hg hj hdj=>?_)
  have hm:d∈namesOf ops.toList o:=by
   have hj':ops.toList[j]? = some oj:=by simpa using hj
   simp [namesOf,hg,hj',hdj]
  rw [← hT d hm]
  exact hrel.slots d
 unfold wpOp
 rw [ho]
 simp only
 split at h
 ·rename_i hw
  rw [if_pos (hguard true hw)]
  split at h
  ·rename_i out hout
   cases h
   left
   have hR:∀ x∈o.op.operands,R X (evalO st.T x) (a.eval x):=fun x hx=>by
    cases x with
    | tmp t =>
     have hm:t∈namesOf ops.toList o:=by
      simp only [namesOf,List.mem_append,List.mem_filterMap]
      exact .inl ⟨.tmp t,by simpa using hx,rfl⟩
     show R X (lookupT st.T t) (a.tmps.getD t Go.undef)
     rw [← hT t hm]
     exact hrel.slots t
    | const v=>exact R_ofConst X v
    | global g=>exact R_global hrel.acc.ok g
    | func f=>exact .fn f [] [] #[] #[] rfl rfl (fun j c h=>by simp at h) (fun j c h=>by simp at h)
   obtain ⟨hlen,_⟩:=stepO_keeps hout
   have hinv:=hrel.acc.inv
   have hyield:=opO_sound (w:=w) (hrel.acc.le.nu.symm.trans hnu) hO hself (ρ:=a.eval) hout hinv.ok hR (fun id hid=>by rw [← hs id (by rcases hid with h|h;exact .inl h;exact .inr (.inl h))];exact hinv.res id)
    (fun id h1 h2=>by
     have:=hinv.res id
     rw [hs id (.inr (.inr ⟨h1,h2⟩)),List.getElem?_eq_none h1] at this
     exact this)
    (fun i j b hi hj ho1 ho2=>hinv.dis i j b (by rw [hs i (by rcases hi with h|h;exact .inl h;exact .inr (.inl h))];exact ho1) (by rw [hs j (by rcases hj with h|h;exact .inl h;exact .inr (.inl h))];exact ho2))
   have hnext:∀ v w',OpPost X w st.s out v w'→K (a.put o.dst v) w':=by
    rintro v w' ⟨X',hv,hp⟩
    have hp':Post X X' w w' s (fun id=>if id∈out.wr∨(st.s.length≤id∧id < out.s.length) then out.s[id]? else s id) (fun id=>id∈out.wr∨(st.s.length≤id∧id < out.s.length)) :=
     hp.congr (fun id hid=>(hs id (by rcases hid with h|h;exact .inr (.inl h);exact .inr (.inr h))).symm) (fun id hid=>by rw [if_pos hid])
    refine hK X' w' (a.put o.dst v) (fun t=>if o.dst=some t then out.v else T t) _ ⟨hrel.acc.post hp' (fun id hid=>by rw [if_neg hid]),hrel.slots.put hp.le hv (fun k hk=>Nat.lt_of_lt_of_le (hd k hk) hrel.size) (fun t=>rfl),by rw [put_size];exact hrel.size,by rw [put_defers',hrel.defers]⟩ (fun t=>?_) (fun id=>rfl)
    show _=if o.dst=some t then lookupT (putT st.T o.dst out.v) t else T t
    rw [lookup_put]
    split<;>rfl
   unfold Oper.wp
   unfold OpYields at hyield
   generalize (execOp a.eval o).run P w=res at hyield ⊢
   cases res with
   | halt x w'=>exact hyield.elim
   | ok n w' =>
    cases n with
    | value v=>exact hnext v w' hyield
    | skip=>exact hnext Go.undef w' hyield
    | enter f args =>
     have hc:Calls P f args w' fun e w''=>∃ v,e = .returned v∧OpPost X w st.s out v w'':=hyield
     show Calls P f args w' _
     refine hc.mono ?_
     rintro e w'' ⟨v,rfl,hv⟩
     exact hnext v w'' hv
    | _=>exact hyield.elim
  ·cases h
 ·rename_i hw
  rw [if_neg (by rw [hguard false hw];simp)]
  cases h
  refine hK X w (a.put o.dst Go.undef) (fun t=>if o.dst=some t then .undef else T t) s ⟨hrel.acc,hrel.slots.put (.refl X) .undef (fun k hk=>Nat.lt_of_lt_of_le (hd k hk) hrel.size) (fun t=>rfl),by rw [put_size];exact hrel.size,by rw [put_defers',hrel.defers]⟩ (fun t=>?_) (fun id=>?_)
  ·show _=if o.dst=some t then lookupT (putT st.T o.dst .undef) t else T t
   rw [lookup_put]
   split<;>rfl
  ·rw [if_neg (by rintro (h|h);exact absurd h (by simp);dsimp only at h;omega)]
 ·cases h
end
open Go Go.RowKit
section
variable {P:Program} {X X0:Map} {w w0:World} {s0:Nat→Option Res}
theorem stepAt_s {O:Orc} {self:Self} {ops:List Oper} {o:Oper} {st st':St} {rd wr:List Nat} (h:stepAt P O self ops o st=some (st',rd,wr)) :
  st.s.length≤st'.s.length∧(∀ id,id < st.s.length→id ∉ wr→st'.s[id]? = st.s[id]?)∧∀ t,o.dst≠some t→lookupT st'.T t=lookupT st.T t:=by
 unfold stepAt at h
 split at h
 ·split at h
  ·rename_i out hout
   cases h
   obtain ⟨h1,h2⟩:=stepO_keeps hout
   exact ⟨h1,h2,fun t ht=>by rw [lookup_put,if_neg ht]⟩
  ·cases h
 ·cases h
  exact ⟨Nat.le_refl _,fun _ _ _=>rfl,fun t ht=>by rw [lookup_put,if_neg ht]⟩
 ·cases h
abbrev RelSt (P:Program) (N:Nat) (X0:Map) (w0:World) (s0:Nat→Option Res) (X:Map) (w:World) (st:St) (a:Act):Prop:=Rel P N X0 w0 s0 X w (lookupT st.T) (fun i=>st.s[i]?) a
theorem seq_sound {nu:Nat→PV} (hnu:X0.nu=nu) {O:Orc} (hO:OrcOk0 P nu O) {self:Self} (hself:SelfOk P nu self) {N:Nat} {ops:Array Oper} (hd:∀ (i:Nat) (o:Oper),ops[i]? = some o→∀ d,o.dst=some d→d < N) {Q:Exit→Act→World→Prop} :
  ∀ (n k:Nat) (st st':St) (X:Map) (w:World) (a:Act),k+n=ops.size→runList P O self ops.toList (ops.toList.drop k) st=some st'→RelSt P N X0 w0 s0 X w st a →
  (∀ X' w' a',RelSt P N X0 w0 s0 X' w' st' a'→Q .normal a' w')→wpOps P ops Q (List.range' k n) a w
 | 0,k,st,st',X,w,a,hk,h,hrel,hQ=>by
  rw [List.drop_eq_nil_of_le (by simp;omega)] at h
  cases h
  exact hQ X w a hrel
 | n+1,k,st,st',X,w,a,hk,h,hrel,hQ=>by
  have hlt:k < ops.toList.length:=by simp;omega
  rw [List.drop_eq_getElem_cons hlt] at h
  unfold runList at h
  split at h
  ·rename_i st1 fp hst
   obtain ⟨rd,wr⟩:=fp
   have ho:ops[k]? = some ops.toList[k]:=by simp at hlt;simp [hlt]
   rw [List.range'_succ,wpOps_cons]
   obtain ⟨k1,k2,k3⟩:=stepAt_s hst
   refine step_sound hnu hO hself hrel ho hst (hd k _ ho) (fun t _=>rfl) (fun id _=>rfl) (fun X' w' a' T' s' hrel' hT' hs'=>?_)
   refine seq_sound hnu hO hself hd n (k+1) st1 st' X' w' a' (by omega) h ?_ hQ
   have e1:T'=lookupT st1.T:=by
    funext t
    rw [hT']
    split
    ·rfl
    ·rename_i hne;exact (k3 t hne).symm
   have e2:s'=fun i=>st1.s[i]?:=by
    funext id
    rw [hs']
    split
    ·rfl
    ·rename_i hne
     simp only [not_or,not_and,Nat.not_lt] at hne
     by_cases hl:id < st.s.length
     ·exact (k2 id hl hne.1).symm
     ·have:=hne.2 (by omega)
      rw [List.getElem?_eq_none (by omega),List.getElem?_eq_none this]
   subst e1
   subst e2
   exact hrel'
  ·cases h
def accF {L C:Type} (In:Nat→Bool) (wr:Nat→L→Prop) [∀ k l,Decidable (wr k l)] (cont:Nat→L→C):Nat→L→C
 | 0,l=>cont 0 l
 | k+1,l=>if In k=true∧wr k l then cont (k+1) l else accF In wr cont k l
section
variable {L C:Type} {In In':Nat→Bool} {wr:Nat→L→Prop} [∀ k l,Decidable (wr k l)] {cont:Nat→L→C}
theorem accF_read (hfr:∀ k l,¬ wr k l→cont (k+1) l=cont k l) {l:L} {i:Nat} (h1:∀ k,k < i→wr k l→In k=true):accF In wr cont i l=cont i l:=by
 induction i with
 | zero=>rfl
 | succ i ih =>
  simp only [accF]
  by_cases hw:wr i l
  ·rw [if_pos ⟨h1 i (by omega) hw,hw⟩]
  ·rw [if_neg (fun h=>hw h.2),ih (fun k hk=>h1 k (by omega)),hfr i l hw]
theorem accF_skip {l : L} {i n : Nat} (hin : i ≤ n) (h2 : ∀ k, i ≤ k → k < n → wr k l → In k = false) : accF In wr cont n l = accF In wr cont i l := by
  induction n with
  | zero => have : i = 0 := by omega
            rw [this]
  | succ n ih =>
    by_cases he : i = n + 1
    · rw [he]
    · simp only [accF]
      rw [if_neg (fun h => by rw [h2 n (by omega) (by omega) h.2] at h; exact absurd h.1 (by simp)), ih (by omega) (fun k h1 h3 => h2 k h1 (by omega))]
theorem accF_at (hfr:∀ k l,¬ wr k l→cont (k+1) l=cont k l) {l:L} {i n:Nat} (hin:i≤n) (h1:∀ k,k < i→wr k l→In k=true) (h2:∀ k,i≤k→k < n→wr k l→In k=false):accF In wr cont n l=cont i l :=
 (accF_skip hin h2).trans (accF_read hfr h1)
theorem accF_congr {l:L} {n:Nat} (h:∀ k,k < n→wr k l→In' k=In k):accF In' wr cont n l=accF In wr cont n l:=by
 induction n with
 | zero=>rfl
 | succ n ih =>
  simp only [accF]
  rw [ih (fun k hk=>h k (by omega))]
  by_cases hw:wr n l
  ·rw [h n (by omega) hw]
  ·rw [if_neg (fun hh=>hw hh.2),if_neg (fun hh=>hw hh.2)]
theorem accF_add (hfr:∀ k l,¬ wr k l→cont (k+1) l=cont k l) {l:L} {i n:Nat} (hin:i < n) (hIn':∀ k,In' k=(In k||k==i)) (h1:wr i l→∀ k,k < i→wr k l→In k=true) (h2:wr i l→∀ k,i < k→k < n→wr k l→In k=false) :
  accF In' wr cont n l=if wr i l then cont (i+1) l else accF In wr cont n l:=by
 by_cases hw:wr i l
 ·rw [if_pos hw]
  refine accF_at hfr (by omega) (fun k hk hwk=>?_) (fun k hk hkn hwk=>?_)
  ·rw [hIn']
   by_cases e:k=i
   ·simp [e]
   ·rw [h1 hw k (by omega) hwk];rfl
  ·rw [hIn',h2 hw k (by omega) hkn hwk]
   simp;omega
 ·rw [if_neg hw]
  refine accF_congr (fun k hk hwk=>?_)
  rw [hIn']
  have:k≠i:=by rintro rfl;exact hw hwk
  simp [this]
end
theorem masks_keep:∀ (l:List Oper) (acc:List Nat) (j:Nat),j < acc.length→(masks l acc)[j]? = acc[j]?
 | [],acc,j,_=>rfl
 | o::l,acc,j,h=>by simp only [masks];rw [masks_keep l _ j (by simp;omega),List.getElem?_append_left h]
theorem foldl_mask (acc:List Nat) (b:Nat):∀ (es:List Edge) (m:Nat),(es.foldl (fun m e=>if Region.binds .any e then m ||| 2 ^ e.on ||| acc.getD e.on 0 else m) m).testBit b=true →
  m.testBit b=true∨∃ e∈es,Region.binds .any e=true∧(e.on=b∨(acc.getD e.on 0).testBit b=true)
 | [],m,h=>.inl h
 | e::es,m,h=>by
  rw [List.foldl_cons] at h
  rcases foldl_mask acc b es _ h with h'|⟨e',he',h'⟩
  ·by_cases hb:Region.binds .any e=true
   ·rw [if_pos hb] at h'
    simp only [Nat.testBit_or,Bool.or_eq_true] at h'
    rcases h' with (h'|h')|h'
    ·exact .inl h'
    ·refine .inr ⟨e,by simp,hb, .inl ?_⟩
     rw [Nat.testBit_two_pow] at h'
     simpa using h'
    ·exact .inr ⟨e,by simp,hb, .inr h'⟩
   ·rw [if_neg hb] at h'
    exact .inl h'
  ·exact .inr ⟨e',by simp [he'],h'⟩
theorem masks_spec:∀ (l:List Oper) (acc:List Nat) (i b:Nat) (o:Oper),l[i]? = some o→(∀ e∈o.after.toList,Region.binds .any e=true→e.on < acc.length+i)→((masks l acc).getD (acc.length+i) 0).testBit b=true →
  ∃ e∈o.after.toList,Region.binds .any e=true∧(e.on=b∨((masks l acc).getD e.on 0).testBit b=true)
 | [],acc,i,b,o,h,_,_=>by simp at h
 | o'::l,acc,0,b,o,h,he,hb=>by
  simp at h
  subst h
  simp only [masks] at hb ⊢
  have hk:=masks_keep l (acc++[o'.after.toList.foldl (fun m e=>if Region.binds .any e then m ||| 2 ^ e.on ||| acc.getD e.on 0 else m) 0]) acc.length (by simp)
  rw [List.getD_eq_getElem?_getD,Nat.add_zero,hk,List.getElem?_append_right (Nat.le_refl _)] at hb
  simp only [Nat.sub_self,List.getElem?_cons_zero,Option.getD_some] at hb
  rcases foldl_mask acc b _ _ hb with h'|⟨e,h1,h2,h3⟩
  ·simp at h'
  ·refine ⟨e,h1,h2,?_⟩
   rcases h3 with h3|h3
   ·exact .inl h3
   ·refine .inr ?_
    have hlt:e.on < acc.length:=by have:=he e h1 h2;omega
    rw [List.getD_eq_getElem?_getD,masks_keep _ _ _ (by simp;omega),List.getElem?_append_left hlt,← List.getD_eq_getElem?_getD]
    exact h3
 | o'::l,acc,i+1,b,o,h,he,hb=>by
  simp only [masks] at hb ⊢
  have:=masks_spec l (acc++[o'.after.toList.foldl (fun m e=>if Region.binds .any e then m ||| 2 ^ e.on ||| acc.getD e.on 0 else m) 0]) i b o (by simpa using h) (fun e h1 h2=>by have:=he e h1 h2;simp;omega)
  simp only [List.length_append,List.length_cons,List.length_nil] at this
  rw [show acc.length+(0+1)+i=acc.length+(i+1) by omega] at this
  exact this hb
theorem meets_false {a b:List Nat} (h:meets a b=false):∀ x,x∈a→x∈b→False:=fun x ha hb=>by
 unfold meets at h
 rw [List.any_eq_false] at h
 have:=h x ha
 simp at this
 exact this hb
theorem mem_created {n n' id:Nat}:id∈created n n'↔n≤id∧id < n':=by
 simp only [created,List.mem_map,List.mem_range]
 constructor
 ·rintro ⟨k,hk,rfl⟩;omega
 ·rintro ⟨h1,h2⟩;exact ⟨id - n,by omega,by omega⟩
def Free (ms:List Nat) (i:Nat) (x:Nat × List Nat × List Nat) (F:List Nat × List Nat):Prop :=
 (meets x.2.2 F.1=false∧meets x.2.2 F.2=false∧meets x.2.1 F.2=false)∨(ms.getD i 0).testBit x.1=true
theorem drawn_trace {O:Orc} {self:Self} {ops:List Oper}:∀ (l:List Oper) (i:Nat) (acc:List (Nat × List Nat × List Nat)) (st st':St),runDrawn P O self ops l i acc st=some st' →
  ∃ (S:Nat→St) (F:Nat→List Nat × List Nat),S i=st∧S (i+l.length)=st'∧∀ k,k < l.length→∃ o rd wr,l[k]? = some o∧stepAt P O self ops o (S (i+k))=some (S (i+k+1),rd,wr) ∧
   F (i+k)=(rd,wr++created (S (i+k)).s.length (S (i+k+1)).s.length)∧(∀ x∈acc,Free (masks ops []) (i+k) x (F (i+k)))∧∀ j,j < k→Free (masks ops []) (i+k) (i+j,F (i+j)) (F (i+k))
 | [],i,acc,st,st',h=>by
  cases h
  exact ⟨fun _=>st,fun _=>([],[]),rfl,rfl,fun k hk=>by simp at hk⟩
 | o::l,i,acc,st,st',h=>by
  unfold runDrawn at h
  split at h
  ·rename_i st1 rd wr hst
   dsimp only at h
   have fin:∀ acc',runDrawn P O self ops l (i+1) acc' st1=some st'→(∀ x∈acc,x∈acc')→((i,rd,wr++created st.s.length st1.s.length)∈acc'∨(rd=[]∧wr++created st.s.length st1.s.length=[])) →
     (∀ x∈acc,Free (masks ops []) i x (rd,wr++created st.s.length st1.s.length))→∃ (S:Nat→St) (F:Nat→List Nat × List Nat),S i=st∧S (i+(o::l).length)=st'∧∀ k,k < (o::l).length→∃ o' rd wr,(o::l)[k]? = some o'∧stepAt P O self ops o' (S (i+k))=some (S (i+k+1),rd,wr) ∧
     F (i+k)=(rd,wr++created (S (i+k)).s.length (S (i+k+1)).s.length)∧(∀ x∈acc,Free (masks ops []) (i+k) x (F (i+k)))∧∀ j,j < k→Free (masks ops []) (i+k) (i+j,F (i+j)) (F (i+k)):=by
    intro acc' h' hsub hin hfree
    obtain ⟨S,F,h1,h2,h3⟩:=drawn_trace l (i+1) acc' st1 st' h'
    have hSi:(fun k=>if k=i then st else S k) i=st:=if_pos rfl
    have hS:∀ k,i < k→(fun k=>if k=i then st else S k) k=S k:=fun k hk=>if_neg (by omega)
    have hFi:(fun k=>if k=i then (rd,wr++created st.s.length st1.s.length) else F k) i=(rd,wr++created st.s.length st1.s.length):=if_pos rfl
    have hF:∀ k,i < k→(fun k=>if k=i then (rd,wr++created st.s.length st1.s.length) else F k) k=F k:=fun k hk=>if_neg (by omega)
    refine ⟨fun k=>if k=i then st else S k,fun k=>if k=i then (rd,wr++created st.s.length st1.s.length) else F k,hSi,?_,fun k hk=>?_⟩
    ·rw [hS _ (by simp),List.length_cons,← h2]
     congr 1;omega
    ·cases k with
     | zero =>
      refine ⟨o,rd,wr,rfl,?_,?_,?_,fun j hj=>by omega⟩
      ·rw [Nat.add_zero,hSi,hS (i+1) (by omega),h1];exact hst
      ·rw [Nat.add_zero,hSi,hFi,hS (i+1) (by omega),h1]
      ·rw [Nat.add_zero,hFi];exact hfree
     | succ k =>
      obtain ⟨o',rd',wr',g1,g2,g3,g4,g5⟩:=h3 k (by simpa using hk)
      have e1:i+1+k=i+(k+1):=by omega
      rw [e1] at g2 g3 g4 g5
      refine ⟨o',rd',wr',by simpa using g1,?_,?_,?_,fun j hj=>?_⟩
      ·rw [hS _ (by omega),hS _ (by omega)];exact g2
      ·rw [hF _ (by omega),hS _ (by omega),hS _ (by omega)];exact g3
      ·rw [hF _ (by omega)];exact fun x hx=>g4 x (hsub x hx)
      ·rw [hF (i+(k+1)) (by omega)]
       cases j with
       | zero =>
        show Free _ _ (i,if i=i then (rd,wr++created st.s.length st1.s.length) else F i) _
        rw [if_pos rfl]
        rcases hin with hin|⟨hr,hw⟩
        ·exact g4 _ hin
        ·rw [hr,hw];exact .inl ⟨rfl,rfl,rfl⟩
       | succ j =>
        have:=g5 j (by omega)
        rw [show i+1+j=i+(j+1) by omega] at this
        rw [hF (i+(j+1)) (by omega)]
        exact this
   split at h
   ·rename_i hr hw
    refine fin acc h (fun x hx=>hx) (.inr ⟨rfl,hw⟩) (fun x _=>?_)
    rw [hw]
    refine .inl ⟨?_,?_,?_⟩<;>simp [meets]
   ·split at h
    ·rename_i hall
     refine fin _ h (fun x hx=>List.mem_cons_of_mem _ hx) (.inl List.mem_cons_self) (fun x hx=>?_)
     have:=List.all_eq_true.1 hall x hx
     simp only [Bool.or_eq_true,Bool.not_eq_true',Bool.or_eq_false_iff] at this
     rcases this with ⟨⟨a1,a2⟩,a3⟩|a4
     ·exact .inl ⟨a1,a2,a3⟩
     ·exact .inr a4
    ·cases h
  ·cases h
theorem count_lt {n:Nat} (f g:Nat→Bool) (h:∀ k,k < n→g k=true→f k=true) {i:Nat} (hi:i < n) (hf:f i=true) (hg:g i=false):((List.range n).filter g).length < ((List.range n).filter f).length:=by
 induction n with
 | zero=>omega
 | succ n ih =>
  rw [List.range_succ,List.filter_append,List.filter_append,List.length_append,List.length_append]
  by_cases e:i=n
  ·subst e
   have hle:((List.range i).filter g).length≤((List.range i).filter f).length:=by
    clear ih hi hf hg
    induction i with
    | zero=>simp
    | succ m ihm =>
     rw [List.range_succ,List.filter_append,List.filter_append,List.length_append,List.length_append]
     have:=ihm (fun k hk=>h k (by omega))
     have h2:=h m (by omega)
     have:([m].filter g).length≤([m].filter f).length:=by
      cases hgm:g m with
      | false=>simp [hgm]
      | true=>simp [hgm,h2 hgm]
     omega
   simp [hf,hg];omega
  ·have h1:=ih (fun k hk=>h k (by omega)) (by omega)
   have h2:=h n (by omega)
   have:([n].filter g).length≤([n].filter f).length:=by
    cases hgn:g n with
    | false=>simp [hgn]
    | true=>simp [hgn,h2 hgn]
   omega
theorem drawn_sound {nu:Nat→PV} (hnu:X0.nu=nu) {O:Orc} (hO:OrcOk0 P nu O) {self:Self} (hself:SelfOk P nu self) {N:Nat} {ops:Array Oper} (hok:regionOk N ops.toList true=true) {Q:Exit→Act→World→Prop} {st st':St} {a:Act} (h:runDrawn P O self ops.toList ops.toList 0 [] st=some st') (hrel:RelSt P N X0 w0 s0 X w st a)
  (hQ:∀ X' w' a',RelSt P N X0 w0 s0 X' w' st' a'→Q .normal a' w'):wpAny P .any ops Q ops.size (Array.replicate ops.size false) a w:=by
 obtain ⟨S,F,hS0,hSn,hstep⟩:=drawn_trace _ _ _ _ _ h
 simp only [Nat.zero_add] at hSn hstep
 have hlen:ops.toList.length=ops.size:=Array.length_toList
 rw [hlen] at hSn hstep
 unfold regionOk at hok
 simp only [Bool.and_eq_true,Bool.not_true,Bool.false_or] at hok
 obtain ⟨hok1,hok2⟩:=hok
 generalize hms:masks ops.toList []=ms at hok2 hstep
 have hd:∀ (i:Nat) (o:Oper),ops[i]? = some o→∀ d,o.dst=some d→d < N:=fun i o ho d hdd=>by
  have:=List.all_eq_true.1 hok1 o (List.mem_of_getElem? (i:=i) (by simpa using ho))
  rw [hdd] at this
  simpa using this
 have hzip:∀ (i:Nat) (o:Oper),ops[i]? = some o→(o,i)∈ops.toList.zipIdx:=fun i o ho=>by
  rw [List.mem_zipIdx_iff_getElem?];simpa using ho
 have hedge:∀ (i:Nat) (o:Oper),ops[i]? = some o→∀ e∈o.after.toList,Region.binds .any e=true→e.on < i:=fun i o ho e he hb=>by
  have:=List.all_eq_true.1 hok2 (o,i) (hzip i o ho)
  simp only [Bool.and_eq_true] at this
  have:=List.all_eq_true.1 this.1 e he
  simp only [hb,Bool.not_true,Bool.false_or,decide_eq_true_eq] at this
  exact this
 have hslot:∀ (i k:Nat) (oi ok:Oper),ops[i]? = some oi→ops[k]? = some ok→k≠i→clash ops.toList oi ok=true→if k < i then (ms.getD i 0).testBit k=true else (ms.getD k 0).testBit i=true:=fun i k oi ok hi hk hne hc=>by
  have:=List.all_eq_true.1 hok2 (oi,i) (hzip i oi hi)
  simp only [Bool.and_eq_true] at this
  have:=List.all_eq_true.1 this.2 (ok,k) (hzip k ok hk)
  simp only [hc,Bool.not_true,Bool.or_false,Bool.or_eq_true,beq_iff_eq] at this
  rcases this with h'|h'
  ·exact absurd h' hne
  ·split at h'
   ·rename_i hlt;rw [if_pos hlt];exact h'
   ·rename_i hlt;rw [if_neg hlt];exact h'
 let wT:Nat→Nat→Prop:=fun k t=>match ops[k]? with|some o=>o.dst=some t|none=>False
 let wR:Nat→Nat→Prop:=fun k id=>id∈(F k).2
 haveI:∀ k t,Decidable (wT k t):=fun _ _=>Classical.propDecidable _
 haveI:∀ k id,Decidable (wR k id):=fun _ _=>Classical.propDecidable _
 let n:=ops.size
 let cT:Nat→Nat→PV:=fun k t=>lookupT (S (min k n)).T t
 let cR:Nat→Nat→Option Res:=fun k id=>(S (min k n)).s[id]?
 have hone:∀ i,i < n→∃ o rd wr,ops[i]? = some o∧stepAt P O self ops.toList o (S i)=some (S (i+1),rd,wr)∧F i=(rd,wr++created (S i).s.length (S (i+1)).s.length)∧∀ j,j < i→Free ms i (j,F j) (F i):=fun i hi=>by
  obtain ⟨o,rd,wr,g1,g2,g3,_,g5⟩:=hstep i hi
  exact ⟨o,rd,wr,by simpa using g1,g2,g3,g5⟩
 have hfrT:∀ k t,¬ wT k t→cT (k+1) t=cT k t:=fun k t hw=>by
  by_cases hk:k < n
  ·obtain ⟨o,rd,wr,g1,g2,g3,_⟩:=hone k hk
   obtain ⟨_,_,h3⟩:=stepAt_s g2
   have hw':o.dst≠some t:=fun e=>hw (by show (match ops[k]? with|some o=>o.dst=some t|none=>False);rw [g1];exact e)
   show lookupT (S (min (k+1) n)).T t=lookupT (S (min k n)).T t
   rw [show min (k+1) n=k+1 by omega,show min k n=k by omega]
   exact h3 t hw'
  ·show lookupT (S (min (k+1) n)).T t=lookupT (S (min k n)).T t
   rw [show min (k+1) n=n by omega,show min k n=n by omega]
 have hfrR:∀ k id,¬ wR k id→cR (k+1) id=cR k id:=fun k id hw=>by
  show (S (min (k+1) n)).s[id]? = (S (min k n)).s[id]?
  by_cases hk:k < n
  ·obtain ⟨o,rd,wr,g1,g2,g3,_⟩:=hone k hk
   obtain ⟨h1,h2,_⟩:=stepAt_s g2
   rw [show min (k+1) n=k+1 by omega,show min k n=k by omega]
   have hw':id ∉ (F k).2:=hw
   rw [g3] at hw'
   simp only [List.mem_append,mem_created,not_or,not_and,Nat.not_lt] at hw'
   by_cases hl:id < (S k).s.length
   ·exact h2 id hl hw'.1
   ·have:=hw'.2 (by omega)
    exact (List.getElem?_eq_none this).trans (List.getElem?_eq_none (by omega)).symm
  ·rw [show min (k+1) n=n by omega,show min k n=n by omega]
 have key:∀ (fuel:Nat) (listed:Array Bool) (a:Act) (w:World) (X:Map),listed.size=n→((List.range n).filter fun k=>!listed.getD k true).length≤fuel →
   (∀ i j,listed.getD i true=true→i < n→(ms.getD i 0).testBit j=true→listed.getD j true=true) →
   Rel P N X0 w0 s0 X w (accF (fun k=>listed.getD k true) wT cT n) (accF (fun k=>listed.getD k true) wR cR n) a→wpAny P .any ops Q fuel listed a w:=by
  intro fuel
  induction fuel with
  | zero =>
   intro listed a w X hsz hcnt hcl hr
   have hall:∀ k,k < n→listed.getD k true=true:=fun k hk=>by
    cases hq:listed.getD k true with
    | true=>rfl
    | false =>
     have:k∈(List.range n).filter fun k=>!listed.getD k true:=by simp only [List.mem_filter,List.mem_range,hq,Bool.not_false,and_true];exact hk
     have:=List.length_pos_of_mem this
     omega
   have hdone:Region.ready .any ops listed=[]:=by
    unfold Region.ready
    rw [List.filter_eq_nil_iff]
    intro k hk
    rw [List.mem_range] at hk
    rw [hall k hk];simp
   refine ⟨hdone,hQ X w a ?_⟩
   have e1:accF (fun k=>listed.getD k true) wT cT n=lookupT st'.T:=by
    funext t
    rw [accF_read hfrT (fun k hk _=>hall k hk)]
    show lookupT (S (min n n)).T t=_
    rw [Nat.min_self,hSn]
   have e2:accF (fun k=>listed.getD k true) wR cR n=fun i=>st'.s[i]?:=by
    funext t
    rw [accF_read hfrR (fun k hk _=>hall k hk)]
    show (S (min n n)).s[t]? = _
    rw [Nat.min_self,hSn]
   rw [e1,e2] at hr
   exact hr
  | succ fuel ih =>
   intro listed a w X hsz hcnt hcl hr
   refine ⟨fun hnil=>?_,fun i hi=>?_⟩
   ·
    have hall:∀ k,k < n→listed.getD k true=true:=fun k=>by
     induction k using Nat.strongRecOn with
     | _ k ihk =>
      intro hk
      cases hq:listed.getD k true with
      | true=>rfl
      | false =>
       exfalso
       obtain ⟨o,rd,wr,g1,_⟩:=hone k hk
       have hm:k∈Region.ready .any ops listed:=by
        unfold Region.ready
        simp only [List.mem_filter,List.mem_range,hq,Bool.not_false,Bool.true_and,g1,Option.map_some,Option.getD_some]
        refine ⟨hk,?_⟩
        rw [← Array.all_toList,List.all_eq_true]
        intro e he
        by_cases hb:Region.binds .any e=true
        ·have hlt:=hedge k o g1 e he hb
         have:=ihk e.on hlt (by omega)
         have hin:e.on < listed.size:=by omega
         rw [Array.getD_eq_getD_getElem?,Array.getElem?_eq_getElem hin] at this ⊢
         simp only [Option.getD_some] at this ⊢
         rw [this];simp
        ·simp [hb]
       rw [hnil] at hm;simp at hm
    have e1:accF (fun k=>listed.getD k true) wT cT n=lookupT st'.T:=by
     funext t
     rw [accF_read hfrT (fun k hk _=>hall k hk)]
     show lookupT (S (min n n)).T t=_
     rw [Nat.min_self,hSn]
    have e2:accF (fun k=>listed.getD k true) wR cR n=fun i=>st'.s[i]?:=by
     funext t
     rw [accF_read hfrR (fun k hk _=>hall k hk)]
     show (S (min n n)).s[t]? = _
     rw [Nat.min_self,hSn]
    rw [e1,e2] at hr
    exact hQ X w a hr
   ·unfold Region.ready at hi
    simp only [List.mem_filter,List.mem_range,Bool.and_eq_true,Bool.not_eq_true'] at hi
    obtain ⟨hin,hnot,hready⟩:=hi
    have hin':i < n:=hin
    obtain ⟨o,rd,wr,g1,g2,g3,g5⟩:=hone i hin
    rw [g1] at hready
    simp only [Option.map_some,Option.getD_some] at hready
    have hmaskL:∀ j,(ms.getD i 0).testBit j=true→listed.getD j true=true:=fun j hj=>by
     obtain ⟨e,he,hb,hor⟩:=masks_spec ops.toList [] i j o (by simpa using g1) (fun e he hb=>by simpa using hedge i o g1 e he hb) (by rw [hms];simpa using hj)
     have hlt:=hedge i o g1 e he hb
     have hL:listed.getD e.on true=true:=by
      rw [← Array.all_toList,List.all_eq_true] at hready
      have:=hready e he
      rw [hb] at this
      simp only [Bool.not_true,Bool.false_or] at this
      have hin2:e.on < listed.size:=by omega
      rw [Array.getD_eq_getD_getElem?,Array.getElem?_eq_getElem hin2] at this ⊢
      exact this
     rcases hor with rfl|hor
     ·exact hL
     ·rw [hms] at hor
      exact hcl e.on j hL (by omega) hor
    have hlater:∀ k,i < k→k < n→(ms.getD k 0).testBit i=true→listed.getD k true=false:=fun k hk hkn hb=>by
     cases hq:listed.getD k true with
     | false=>rfl
     | true=>rw [hcl k i hq hkn hb] at hnot;cases hnot
    have hnT:∀ t,(t∈namesOf ops.toList o∨o.dst=some t)→(∀ k,k < i→wT k t→listed.getD k true=true)∧(∀ k,i < k→k < n→wT k t→listed.getD k true=false):=fun t ht=>by
     have hcl':∀ k,k≠i→wT k t→if k < i then (ms.getD i 0).testBit k=true else (ms.getD k 0).testBit i=true:=fun k hne hw=>by
      have hw':(match ops[k]? with|some o=>o.dst=some t|none=>False):=hw
      cases hok:ops[k]? with
      | none=>rw [hok] at hw';exact hw'.elim
      | some ok =>
       rw [hok] at hw'
       refine hslot i k o ok g1 hok hne ?_
       unfold clash
       have hw'':ok.dst=some t:=hw'
       rw [hw'']
       rcases ht with ht|ht
       ·simp [ht]
       ·simp [ht]
     refine ⟨fun k hk hw=>?_,fun k hk hkn hw=>?_⟩
     ·have:=hcl' k (by omega) hw
      rw [if_pos hk] at this
      exact hmaskL k this
     ·have:=hcl' k (by omega) hw
      rw [if_neg (by omega)] at this
      exact hlater k hk hkn this
    have hnR:∀ id,(id∈(F i).1∨id∈(F i).2)→(∀ k,k < i→wR k id→listed.getD k true=true)∧(∀ k,i < k→k < n→wR k id→listed.getD k true=false):=fun id hid=>by
     refine ⟨fun k hk hw=>?_,fun k hk hkn hw=>?_⟩
     ·rcases g5 k hk with ⟨b1,b2,b3⟩|hb
      ·have hw':id∈(F k).2:=hw
       rcases hid with h'|h'
       ·exact (meets_false b1 id hw' h').elim
       ·exact (meets_false b2 id hw' h').elim
      ·exact hmaskL k hb
     ·obtain ⟨_,_,_,_,_,_,q5⟩:=hone k hkn
      rcases q5 i hk with ⟨b1,b2,b3⟩|hb
      ·have hw':id∈(F k).2:=hw
       rcases hid with h'|h'
       ·exact (meets_false b3 id h' hw').elim
       ·exact (meets_false b2 id h' hw').elim
      ·exact hlater k hk hkn hb
    have hcont:∀ k,k≤n→min k n=k:=fun k hk=>by omega
    have hInI:∀ k,(listed.setIfInBounds i true).getD k true=(listed.getD k true||k==i):=fun k=>by
     by_cases e:k=i
     ·subst e
      rw [Array.getD_eq_getD_getElem?,Array.getElem?_setIfInBounds_self_of_lt (by omega)]
      simp
     ·rw [Array.getD_eq_getD_getElem?,Array.getElem?_setIfInBounds_ne (fun h=>e h.symm),← Array.getD_eq_getD_getElem?]
      simp [e]
    have hwTi:∀ t,wT i t↔o.dst=some t:=fun t=>by
     show (match ops[i]? with|some o=>o.dst=some t|none=>False)↔_
     rw [g1]
    have hwRi:∀ id,wR i id↔(id∈wr∨((S i).s.length≤id∧id < (S (i+1)).s.length)):=fun id=>by
     show id∈(F i).2↔_
     rw [g3];simp only [List.mem_append,mem_created]
    refine step_sound hnu hO hself hr g1 g2 (hd i o g1) (fun t ht=>?_) (fun id hid=>?_) (fun X' w' a' T' s' hr' hT' hs'=>?_)
    ·obtain ⟨b1,b2⟩:=hnT t (.inl ht)
     rw [accF_at hfrT (i:=i) (by omega) b1 (fun k hk hkn hw=>?_)]
     ·show lookupT (S (min i n)).T t=_
      rw [hcont i (by omega)]
     ·by_cases e:k=i
      ·subst e;exact hnot
      ·exact b2 k (by omega) hkn hw
    ·obtain ⟨b1,b2⟩:=hnR id (by rw [g3];simp only [List.mem_append,mem_created];rcases hid with h|h|h;exact .inl h;exact .inr (.inl h);exact .inr (.inr h))
     rw [accF_at hfrR (i:=i) (by omega) b1 (fun k hk hkn hw=>?_)]
     ·show (S (min i n)).s[id]? = _
      rw [hcont i (by omega)]
     ·by_cases e:k=i
      ·subst e;exact hnot
      ·exact b2 k (by omega) hkn hw
    ·refine ih _ a' w' X' (by simp [hsz]) ?_ ?_ ?_
     ·have:=count_lt (n:=n) (fun k=>!listed.getD k true) (fun k=>!(listed.setIfInBounds i true).getD k true) (fun k _ hk=>by rw [hInI] at hk;simp at hk;simp [hk.1]) hin' (by simp [hnot]) (by rw [hInI];simp)
      omega
     ·intro k j hk hkn hb
      rw [hInI] at hk ⊢
      by_cases e:k=i
      ·subst e
       rw [hmaskL j hb];rfl
      ·have:listed.getD k true=true:=by simpa [e] using hk
       rw [hcl k j this hkn hb];rfl
     ·have e1:accF (fun k=>(listed.setIfInBounds i true).getD k true) wT cT n=T':=by
       funext t
       rw [hT',accF_add hfrT (In:=fun k=>listed.getD k true) hin' (fun k=>hInI k) (fun hw=>(hnT t (.inr ((hwTi t).1 hw))).1) (fun hw=>(hnT t (.inr ((hwTi t).1 hw))).2)]
       by_cases e:o.dst=some t
       ·rw [if_pos ((hwTi t).2 e),if_pos e]
        show lookupT (S (min (i+1) n)).T t=_
        rw [hcont (i+1) (by omega)]
       ·rw [if_neg (fun hw=>e ((hwTi t).1 hw)),if_neg e]
      have e2:accF (fun k=>(listed.setIfInBounds i true).getD k true) wR cR n=s':=by
       funext id
       rw [hs',accF_add hfrR (In:=fun k=>listed.getD k true) hin' (fun k=>hInI k) (fun hw=>(hnR id (.inr hw)).1) (fun hw=>(hnR id (.inr hw)).2)]
       by_cases e:(id∈wr∨((S i).s.length≤id∧id < (S (i+1)).s.length))
       ·rw [if_pos ((hwRi id).2 e),if_pos e]
        show (S (min (i+1) n)).s[id]? = _
        rw [hcont (i+1) (by omega)]
       ·rw [if_neg (fun hw=>e ((hwRi id).1 hw)),if_neg e]
      rw [e1,e2]
      exact hr'
 refine key ops.size (Array.replicate ops.size false) a w X (by simp [n]) ?_ ?_ ?_
 ·refine Nat.le_trans (List.length_filter_le _ _) (by simp [n])
 ·intro i j hi hin _
  have hf:(Array.replicate ops.size false).getD i true=false:=by
   rw [Array.getD_eq_getD_getElem?,Array.getElem?_eq_getElem (by simpa [n] using hin)]
   simp
  rw [hf] at hi;cases hi
 ·have hno:∀ k,k < n→(Array.replicate ops.size false).getD k true=false:=fun k hk=>by
   rw [Array.getD_eq_getD_getElem?,Array.getElem?_eq_getElem (by simpa [n] using hk)]
   simp
  have e1:accF (fun k=>(Array.replicate ops.size false).getD k true) wT cT n=lookupT st.T:=by
   funext t
   rw [accF_at hfrT (i:=0) (by omega) (fun k hk=>by omega) (fun k _ hk _=>hno k hk)]
   show lookupT (S (min 0 n)).T t=_
   rw [Nat.zero_min,hS0]
  have e2:accF (fun k=>(Array.replicate ops.size false).getD k true) wR cR n=fun i=>st.s[i]?:=by
   funext t
   rw [accF_at hfrR (i:=0) (by omega) (fun k hk=>by omega) (fun k _ hk _=>hno k hk)]
   show (S (min 0 n)).s[t]? = _
   rw [Nat.zero_min,hS0]
  rw [e1,e2]
  exact hrel
end
open Go Go.RowKit
def Ex.toExit:Ex→Exit
 | .normal=>.normal
 | .exit id=>.exit id
 | .goto l=>.goto l
 | .ret=>.ret
section
variable {P:Program} {X0:Map} {w0:World} {s0:Nat→Option Res} {N:Nat}
def Runs (P:Program) (N:Nat) (X0:Map) (w0:World) (s0:Nat→Option Res) (c:Code) (st:St) (ex:Ex) (st':St):Prop :=
 ∀ X w a,RelSt P N X0 w0 s0 X w st a→c.wp P (fun e a' w'=>e=ex.toExit∧∃ X',RelSt P N X0 w0 s0 X' w' st' a') a w
def LoopsOf (LB:List Code) (c:Code):Prop:=∀ b∈loopsIn c,b∈LB
noncomputable def least (p:Nat→Prop):Nat:=Classical.epsilon fun n=>p n∧∀ m,m < n→¬ p m
theorem least_spec {p:Nat→Prop} (h:∃ n,p n):p (least p)∧∀ m,m < least p→¬ p m:=by
 have:∃ n,p n∧∀ m,m < n→¬ p m:=by
  obtain ⟨n,hn⟩:=h
  induction n using Nat.strongRecOn with
  | _ n ih =>
   by_cases hm:∃ m,m < n∧p m
   ·obtain ⟨m,h1,h2⟩:=hm;exact ih m h1 h2
   ·exact ⟨n,hn,fun m h1 h2=>hm ⟨m,h1,h2⟩⟩
 exact Classical.epsilon_spec this
theorem least_le {p:Nat→Prop} {n:Nat} (h:p n):least p≤n:=by
 rcases Nat.lt_or_ge n (least p) with hl|hl
 ·exact absurd h ((least_spec ⟨n,h⟩).2 n hl)
 ·exact hl
theorem keepT_lookup (K:List Nat) (T:List (Nat × PV)) (t:Nat):lookupT (keepT K T) t=if t∈K then lookupT T t else .any:=by
 induction K with
 | nil=>rfl
 | cons k K ih =>
  simp only [keepT,List.map_cons,lookupT_cons]
  by_cases e:k=t
  ·subst e;simp
  ·rw [if_neg e]
   have:=ih
   simp only [keepT] at this
   rw [this]
   simp only [List.mem_cons]
   by_cases h:t∈K
   ·rw [if_pos h,if_pos (.inr h)]
   ·rw [if_neg h,if_neg (fun hh=>by rcases hh with rfl|hh;exact e rfl;exact h hh)]
theorem Rel.keep {X:Map} {w:World} {T:List (Nat × PV)} {s:Nat→Option Res} {a:Act} (h:Rel P N X0 w0 s0 X w (lookupT T) s a) (K:List Nat):Rel P N X0 w0 s0 X w (lookupT (keepT K T)) s a :=
 ⟨h.acc,fun t=>by rw [keepT_lookup];split;exact h.slots t;exact .any _,h.size,h.defers⟩
theorem runs_loop {body:St→Option (Ex × St)} {c:Code} {K:List Nat} (hb:∀ st ex st',body st=some (ex,st')→Runs P N X0 w0 s0 c st ex st') {m:Nat} {st st':St} {ex:Ex} (h:loopJ body K m st=some (ex,st')) :
  Runs P N X0 w0 s0 (.loop c) st ex st':=by
 intro X w a hrel
 let p:Act→World→Nat→Prop:=fun a w m=>∃ st X,loopJ body K m st=some (ex,st')∧RelSt P N X0 w0 s0 X w st a
 refine wp_loop (fun a w=>∃ m,p a w m) (fun a w=>least (p a w)) ⟨m,st,X,h,hrel⟩ (fun a w hI=>?_)
 obtain ⟨hp,_⟩:=least_spec hI
 obtain ⟨st1,X1,hl,hr⟩:=hp
 generalize hm:least (p a w)=m1 at hl
 cases m1 with
 | zero=>cases hl
 | succ m1 =>
  unfold loopJ at hl
  split at hl
  ·rename_i st2 hbody
   refine wp_mono (hb _ _ _ hbody X1 w a (hr.keep K)) ?_
   rintro e a' w' ⟨rfl,X',hr'⟩
   have hp':p a' w' m1:=⟨st2,X',hl,hr'⟩
   refine ⟨⟨m1,hp'⟩,?_⟩
   have:=least_le hp'
   show least (p a' w') < _
   omega
  ·rename_i r hnn
   have hne:ex≠.normal:=by
    rintro rfl
    exact hnn _ hl
   refine wp_mono (hb _ _ _ hl X1 w a (hr.keep K)) ?_
   rintro e a' w' ⟨rfl,X',hr'⟩
   cases ex with
   | normal=>exact absurd rfl hne
   | _=>exact ⟨rfl,X',hr'⟩
def scopeK (P:Program) (c:Code) (Q:Exit→Act→World→Prop):Nat→Exit→Act→World→Prop
 | 0,e,a,w=>(∀ l,e≠.goto l)∧Q e a w
 | m+1,e,a,w=>match e with
  | .goto l=>∃ rest,findLabel c l=some rest∧rest.wp P (scopeK P c Q m) a w
  | e=>Q e a w
theorem wp_scope_rec {c:Code} {Q:Exit→Act→World→Prop} {a:Act} {w:World} {m:Nat} (h:c.wp P (scopeK P c Q m) a w):(Code.scope c).wp P Q a w:=by
 intro b k cs
 have key:∀ (m:Nat) (d:Code) (a:Act) (w:World),d.wp P (scopeK P c Q m) a w→∃ e a' w',Q e a' w'∧Arrives P (lone (b.at a (.code d::.inScope c::k)) cs w) b k cs e a' w':=by
  intro m
  induction m with
  | zero =>
   intro d a w hd
   obtain ⟨e,a₁,w₁,⟨hne,hq⟩,harr⟩:=hd b (.inScope c::k) cs
   cases e with
   | normal=>exact ⟨.normal,a₁,w₁,hq,Steps.trans harr (.one step_inScope)⟩
   | exit id=>exact ⟨.exit id,a₁,w₁,hq,fun k' hk=>harr k' (by simp [exitTo,hk])⟩
   | goto l=>exact absurd rfl (hne l)
   | ret=>exact ⟨_,a₁,w₁,hq,harr⟩
   | panic ch=>exact ⟨_,a₁,w₁,hq,harr⟩
   | outgrown=>exact ⟨_,a₁,w₁,hq,harr⟩
  | succ m ih =>
   intro d a w hd
   obtain ⟨e,a₁,w₁,hq,harr⟩:=hd b (.inScope c::k) cs
   cases e with
   | normal=>exact ⟨.normal,a₁,w₁,hq,Steps.trans harr (.one step_inScope)⟩
   | exit id=>exact ⟨.exit id,a₁,w₁,hq,fun k' hk=>harr k' (by simp [exitTo,hk])⟩
   | goto l =>
    obtain ⟨rest,hf,hrest⟩:=hq
    obtain ⟨e₂,a₂,w₂,hq₂,harr₂⟩:=ih rest a₁ w₁ hrest
    exact ⟨e₂,a₂,w₂,hq₂, .of_steps (harr _ (by simp [gotoIn,hf])) harr₂⟩
   | ret=>exact ⟨_,a₁,w₁,hq,harr⟩
   | panic ch=>exact ⟨_,a₁,w₁,hq,harr⟩
   | outgrown=>exact ⟨_,a₁,w₁,hq,harr⟩
 obtain ⟨e,a',w',hq,harr⟩:=key m c a w h
 exact ⟨e,a',w',hq, .of_steps (.one step_scope) harr⟩
theorem codeOk_find:∀ (c:Code) (l:Nat) (rest:Code),codeOk N c=true→findLabel c l=some rest→codeOk N rest=true
 | .seq a b,l,rest,h,hf=>by
  simp only [codeOk,Bool.and_eq_true] at h
  simp only [findLabel] at hf
  split at hf
  ·rename_i r hr
   cases hf
   simp only [codeOk,Bool.and_eq_true]
   exact ⟨codeOk_find a l r h.1 hr,h.2⟩
  ·exact codeOk_find b l rest h.2 hf
 | .label l',l,rest,h,hf=>by
  simp only [findLabel] at hf
  split at hf
  ·cases hf;rfl
  ·cases hf
 | .skip,_,_,_,hf | .region ..,_,_,_,hf | .cond ..,_,_,_,hf | .block ..,_,_,_,hf | .loop ..,_,_,_,hf | .rangeFunc ..,_,_,_,hf | .exit ..,_,_,_,hf | .scope ..,_,_,_,hf | .goto ..,_,_,_,hf | .ret,_,_,_,hf | .refuse ..,_,_,_,hf=>by cases hf
theorem loops_find:∀ (c:Code) (l:Nat) (rest:Code),findLabel c l=some rest→∀ b∈loopsIn rest,b∈loopsIn c
 | .seq a b,l,rest,hf,x,hx=>by
  simp only [findLabel] at hf
  split at hf
  ·rename_i r hr
   cases hf
   simp only [loopsIn,List.mem_append] at hx ⊢
   rcases hx with hx|hx
   ·exact .inl (loops_find a l r hr x hx)
   ·exact .inr hx
  ·simp only [loopsIn,List.mem_append]
   exact .inr (loops_find b l rest hf x hx)
 | .label l',l,rest,hf,x,hx=>by
  simp only [findLabel] at hf
  split at hf
  ·cases hf;simp [loopsIn] at hx
  ·cases hf
 | .skip,_,_,hf,_,_ | .region ..,_,_,hf,_,_ | .cond ..,_,_,hf,_,_ | .block ..,_,_,hf,_,_ | .loop ..,_,_,hf,_,_ | .rangeFunc ..,_,_,hf,_,_ | .exit ..,_,_,hf,_,_ | .scope ..,_,_,hf,_,_ | .goto ..,_,_,hf,_,_ | .ret,_,_,hf,_,_ | .refuse ..,_,_,hf,_,_=>by cases hf
def LoopsTold (P:Program) (N:Nat) (X0:Map) (w0:World) (s0:Nat→Option Res) (LB:List Code) (L:Nat→St→Option (Ex × St)):Prop :=
 ∀ b st ex st',b∈LB→L (firstId b) st=some (ex,st')→Runs P N X0 w0 s0 (.loop b) st ex st'
theorem runs_scope {again:Code→St→Option (Ex × St)} {LB:List Code} (hagain:∀ c st ex st',again c st=some (ex,st')→codeOk N c=true→LoopsOf LB c→Runs P N X0 w0 s0 c st ex st') {c:Code} (hc:codeOk N c=true) (hl:LoopsOf LB c) :
  ∀ (m:Nat) (d:Code) (st1 st':St) (ex1 ex:Ex) (st:St),Runs P N X0 w0 s0 d st ex1 st1→scopeJ again c m ex1 st1=some (ex,st')→∀ X w a,RelSt P N X0 w0 s0 X w st a→d.wp P (scopeK P c (fun e a' w'=>e=ex.toExit∧∃ X',RelSt P N X0 w0 s0 X' w' st' a') m) a w:=by
 intro m
 induction m with
 | zero =>
  intro d st1 st' ex1 ex st hd h X w a hrel
  refine wp_mono (hd X w a hrel) ?_
  rintro e a' w' ⟨rfl,X',hr⟩
  cases ex1 with
  | goto l =>
   simp only [scopeJ] at h
   cases h
  | _=>simp only [scopeJ] at h;cases h;exact ⟨fun l hl=>by simp [Ex.toExit] at hl,rfl,X',hr⟩
 | succ m ih =>
  intro d st1 st' ex1 ex st hd h X w a hrel
  refine wp_mono (hd X w a hrel) ?_
  rintro e a' w' ⟨rfl,X',hr⟩
  cases ex1 with
  | goto l =>
   simp only [scopeJ] at h
   split at h
   ·rename_i rest hf
    split at h
    ·rename_i e2 st2 hg
     exact ⟨rest,hf,ih rest st2 st' e2 ex st1 (hagain _ _ _ _ hg (codeOk_find _ _ _ hc hf) (fun b hb=>hl b (loops_find _ _ _ hf b hb))) h X' w' a' hr⟩
    ·cases h
   ·cases h
  | _=>simp only [scopeJ] at h;cases h;exact ⟨rfl,X',hr⟩
theorem exec_sound {nu:Nat→PV} (hnu:X0.nu=nu) {O:Orc} (hO:OrcOk0 P nu O) {self:Self} (hself:SelfOk P nu self) (hmix:P.follows .mixedOrders=true) {LB:List Code} {L:Nat→St→Option (Ex × St)} (hL:LoopsTold P N X0 w0 s0 LB L) {again:Code→St→Option (Ex × St)} (hagain:∀ c st ex st',again c st=some (ex,st')→codeOk N c=true→LoopsOf LB c→Runs P N X0 w0 s0 c st ex st') (n:Nat) :
  ∀ (c:Code) (st st':St) (ex:Ex),execC P O self L again n c st=some (ex,st')→codeOk N c=true→LoopsOf LB c→Runs P N X0 w0 s0 c st ex st'
 | .skip,st,st',ex,h,hc,hl=>by
  cases h
  exact fun X w a hrel=>wp_skip ⟨rfl,X,hrel⟩
 | .region id ops false,st,st',ex,h,hc,hl=>by
  simp only [execC] at h
  split at h
  ·rename_i st1 hrun
   cases h
   intro X w a hrel
   refine wp_region ?_
   have hd:∀ (i:Nat) (o:Oper),ops[i]? = some o→∀ d,o.dst=some d→d < N:=fun i o ho d hdd=>by
    simp only [codeOk,regionOk,Bool.and_eq_true] at hc
    have:=List.all_eq_true.1 hc.1 o (List.mem_of_getElem? (i:=i) (by simpa using ho))
    rw [hdd] at this
    simpa using this
   have:=seq_sound hnu hO hself hd (Q:=fun e a' w'=>e=Ex.normal.toExit∧∃ X',RelSt P N X0 w0 s0 X' w' st' a') ops.size 0 st st' X w a (by omega) (by simpa using hrun) hrel (fun X' w' a' hr=>⟨rfl,X',hr⟩)
   rw [List.range_eq_range']
   exact this
  ·cases h
 | .region id ops true,st,st',ex,h,hc,hl=>by
  simp only [execC] at h
  split at h
  ·rename_i st1 hrun
   cases h
   intro X w a hrel
   refine wp_region_any hmix ?_
   have hrel':RelSt P N X0 w0 s0 X { w with drawn:=w.drawn+1 } st a:=⟨hrel.acc.heap rfl rfl rfl rfl,hrel.slots,hrel.size,hrel.defers⟩
   exact drawn_sound hnu hO hself (by simpa [codeOk] using hc) hrun hrel' (fun X' w' a' hr=>⟨rfl,X',hr⟩)
  ·cases h
 | .seq c d,st,st',ex,h,hc,hl=>by
  simp only [codeOk,Bool.and_eq_true] at hc
  simp only [execC] at h
  intro X w a hrel
  refine wp_seq ?_
  split at h
  ·rename_i st1 h1
   refine wp_mono (exec_sound hnu hO hself hmix hL hagain n c st st1 .normal h1 hc.1 (fun b hb=>hl b (by simp [loopsIn,hb])) X w a hrel) ?_
   rintro e a' w' ⟨rfl,X',hr⟩
   exact exec_sound hnu hO hself hmix hL hagain n d st1 st' ex h hc.2 (fun b hb=>hl b (by simp [loopsIn,hb])) X' w' a' hr
  ·rename_i r hnn
   refine wp_mono (exec_sound hnu hO hself hmix hL hagain n c st st' ex h hc.1 (fun b hb=>hl b (by simp [loopsIn,hb])) X w a hrel) ?_
   rintro e a' w' ⟨rfl,X',hr⟩
   cases ex with
   | normal=>exact absurd h (hnn st')
   | _=>exact ⟨rfl,X',hr⟩
 | .cond x c d,st,st',ex,h,hc,hl=>by
  simp only [codeOk,Bool.and_eq_true] at hc
  simp only [execC] at h
  intro X w a hrel
  have hx:=R_eval hrel.acc.ok hrel.slots x
  split at h
  ·rename_i e
   rw [e] at hx
   generalize hv:a.eval x=v at hx
   cases hx
   exact wp_cond_true hv (exec_sound hnu hO hself hmix hL hagain n c st st' ex h hc.1 (fun b hb=>hl b (by simp [loopsIn,hb])) X w a hrel)
  ·rename_i e
   rw [e] at hx
   generalize hv:a.eval x=v at hx
   cases hx
   exact wp_cond_false hv (exec_sound hnu hO hself hmix hL hagain n d st st' ex h hc.2 (fun b hb=>hl b (by simp [loopsIn,hb])) X w a hrel)
  ·cases h
 | .block id c,st,st',ex,h,hc,hl=>by
  simp only [codeOk] at hc
  simp only [execC] at h
  intro X w a hrel
  refine wp_block ?_
  split at h
  ·rename_i id' st1 h1
   refine wp_mono (exec_sound hnu hO hself hmix hL hagain n c st st1 (.exit id') h1 hc (fun b hb=>hl b (by simpa [loopsIn] using hb)) X w a hrel) ?_
   rintro e a' w' ⟨rfl,X',hr⟩
   show (if id'=id then _ else _)
   split at h
   ·rename_i hid
    cases h
    rw [if_pos hid];exact ⟨rfl,X',hr⟩
   ·rename_i hid
    cases h
    rw [if_neg hid];exact ⟨rfl,X',hr⟩
  ·rename_i r hnn
   refine wp_mono (exec_sound hnu hO hself hmix hL hagain n c st st' ex h hc (fun b hb=>hl b (by simpa [loopsIn] using hb)) X w a hrel) ?_
   rintro e a' w' ⟨rfl,X',hr⟩
   cases ex with
   | exit id'=>exact absurd h (hnn id' st')
   | _=>exact ⟨rfl,X',hr⟩
 | .loop c,st,st',ex,h,hc,hl=>by
  simp only [codeOk] at hc
  simp only [execC] at h
  split at h
  ·rename_i r hr
   cases h
   exact hL c st ex st' (hl c (by simp [loopsIn])) hr
  ·exact runs_loop (fun st1 ex1 st2 h1=>exec_sound hnu hO hself hmix hL hagain n c st1 st2 ex1 h1 hc (fun b hb=>hl b (by simp [loopsIn,hb]))) h
 | .scope c,st,st',ex,h,hc,hl=>by
  simp only [codeOk] at hc
  simp only [execC] at h
  intro X w a hrel
  split at h
  ·rename_i ex1 st1 h1
   exact wp_scope_rec (m:=n) (runs_scope hagain hc (fun b hb=>hl b (by simpa [loopsIn] using hb)) n c st1 st' ex1 ex st (exec_sound hnu hO hself hmix hL hagain n c st st1 ex1 h1 hc (fun b hb=>hl b (by simpa [loopsIn] using hb))) h X w a hrel)
  ·cases h
 | .exit id,st,st',ex,h,hc,hl=>by cases h;exact fun X w a hrel=>wp_exit ⟨rfl,X,hrel⟩
 | .label l,st,st',ex,h,hc,hl=>by cases h;exact fun X w a hrel=>wp_label ⟨rfl,X,hrel⟩
 | .goto l,st,st',ex,h,hc,hl=>by cases h;exact fun X w a hrel=>wp_goto ⟨rfl,X,hrel⟩
 | .ret,st,st',ex,h,hc,hl=>by cases h;exact fun X w a hrel=>wp_ret ⟨rfl,X,hrel⟩
 | .rangeFunc ..,_,_,_,h,_,_=>by cases h
 | .refuse ..,_,_,_,h,_,_=>by cases h
theorem execN_sound {nu:Nat→PV} (hnu:X0.nu=nu) {O:Orc} (hO:OrcOk0 P nu O) {self:Self} (hself:SelfOk P nu self) (hmix:P.follows .mixedOrders=true) {LB:List Code} {L:Nat→St→Option (Ex × St)} (hL:LoopsTold P N X0 w0 s0 LB L) (n:Nat) :
  ∀ (k:Nat) (c:Code) (st:St) (ex:Ex) (st':St),execN P O self L n k c st=some (ex,st')→codeOk N c=true→LoopsOf LB c→Runs P N X0 w0 s0 c st ex st'
 | 0,_,_,_,_,h,_,_=>by cases h
 | k+1,c,st,ex,st',h,hc,hl=>exec_sound hnu hO hself hmix hL (fun c st ex st'=>execN_sound hnu hO hself hmix hL n k c st ex st') n c st st' ex h hc hl
def progOk (P:Program):Bool :=
 P.funcs.toList.all (fun fn=>match fn.body with|some c=>codeOk fn.ntmps c && !(fn.name == "runtime.NumGoroutine")|none=>true)&&P.follows .mixedOrders
def resVar (a:Act):ResultVar→Sem Value
 | .tmp t=>pure (a.tmps.getD t Go.undef)
 | .cell b t=>do loadVar t (← asAddr (a.tmps.getD b Go.undef))
theorem results_eq (fn:Func) (a:Act):results fn a.tmps=(do let vs ← fn.results.mapM (resVar a);pure (if h:vs.size=1 then vs[0] else .tuple vs)):=rfl
theorem run_results {X:Map} {w:World} {st:St} {a:Act} {N:Nat} (hrel:RelSt P N X0 w0 s0 X w st a):∀ (rs:List ResultVar) (l:List PV),resultP P st.s st.T rs=some l →
  ∃ vs:List Value,(rs.mapM (resVar a)).run P w = .ok vs w∧vs.length=l.length∧∀ j p,l[j]? = some p→R X p (vs.getD j Go.undef)
 | [],l,h=>by cases h;exact ⟨[],rfl,rfl,fun j p hj=>by simp at hj⟩
 | .tmp t::rs,l,h=>by
  unfold resultP at h
  split at h
  ·rename_i l' hl
   cases h
   obtain ⟨vs,h1,h2,h3⟩:=run_results hrel rs l' hl
   refine ⟨a.tmps.getD t Go.undef::vs,?_,by simp [h2],fun j p hj=>?_⟩
   ·rw [List.mapM_cons]
    simp only [resVar,Sem.run_bind,Sem.run_pure,Result.andThen_ok]
    rw [h1]
    rfl
   ·cases j with
    | zero=>simp at hj;subst hj;exact hrel.slots t
    | succ j=>exact h3 j p (by simpa using hj)
  ·cases h
 | .cell b t::rs,l,h=>by
  unfold resultP at h
  split at h
  ·rename_i n hn
   split at h
   ·rename_i v rd l' hld hl
    cases h
    obtain ⟨vs,h1,h2,h3⟩:=run_results hrel rs l' hl
    obtain ⟨_,ad,had,u,r1,r2⟩:=load_sound hn hld (hrel.slots b) hrel.acc.ok (fun id _=>hrel.acc.res id trivial)
    refine ⟨u::vs,?_,by simp [h2],fun j p hj=>?_⟩
    ·rw [List.mapM_cons]
     have ha:(asAddr (a.tmps.getD b Go.undef)).run P w = .ok ad w:=by rw [had];rfl
     simp only [resVar,Sem.run_bind,Sem.run_pure,Result.andThen_ok,ha,r1]
     rw [h1]
     rfl
    ·cases j with
     | zero=>simp at hj;subst hj;exact r2
     | succ j=>exact h3 j p (by simpa using hj)
   ·cases h
  ·cases h
theorem argsT_lookup:∀ (i:Nat) (l:List PV) (t:Nat),lookupT (argsT i l) t=if i≤t then (match l[t - i]? with|some p=>p|none=>.any) else .any
 | i,[],t=>by simp [argsT,lookupT]
 | i,v::l,t=>by
  simp only [argsT,lookupT_cons]
  by_cases e:i=t
  ·subst e;simp
  ·rw [if_neg e,argsT_lookup (i+1) l t]
   by_cases h:i+1≤t
   ·rw [if_pos h,if_pos (by omega),show t - i=(t - (i+1))+1 by omega]
    rfl
   ·rw [if_neg h,if_neg (by omega)]
theorem runList_len {O:Orc} {self:Self} {ops:List Oper}:∀ (l:List Oper) (st st':St),runList P O self ops l st=some st'→st.s.length≤st'.s.length
 | [],st,st',h=>by cases h;exact Nat.le_refl _
 | o::l,st,st',h=>by
  unfold runList at h
  split at h
  ·rename_i h1;exact Nat.le_trans (stepAt_s h1).1 (runList_len l _ _ h)
  ·cases h
theorem runDrawn_len {O:Orc} {self:Self} {ops:List Oper}:∀ (l:List Oper) (i:Nat) (acc:List (Nat × List Nat × List Nat)) (st st':St),runDrawn P O self ops l i acc st=some st'→st.s.length≤st'.s.length
 | [],_,_,st,st',h=>by cases h;exact Nat.le_refl _
 | o::l,i,acc,st,st',h=>by
  unfold runDrawn at h
  split at h
  ·rename_i h1
   have:=(stepAt_s h1).1
   dsimp only at h
   split at h
   ·exact Nat.le_trans this (runDrawn_len l _ _ _ _ h)
   ·split at h
    ·exact Nat.le_trans this (runDrawn_len l _ _ _ _ h)
    ·cases h
  ·cases h
theorem loopJ_len {body:St→Option (Ex × St)} {K:List Nat} (hb:∀ st ex st',body st=some (ex,st')→st.s.length≤st'.s.length):∀ (n:Nat) (st:St) (ex:Ex) (st':St),loopJ body K n st=some (ex,st')→st.s.length≤st'.s.length
 | 0,_,_,_,h=>by cases h
 | n+1,st,ex,st',h=>by
  unfold loopJ at h
  split at h
  ·rename_i st1 h1
   exact Nat.le_trans (show st.s.length≤st1.s.length from hb ⟨keepT K st.T,st.s⟩ _ _ h1) (loopJ_len hb n _ _ _ h)
  ·exact hb ⟨keepT K st.T,st.s⟩ _ _ h
theorem scopeJ_len {again:Code→St→Option (Ex × St)} {b:Code} (hb:∀ c st ex st',again c st=some (ex,st')→st.s.length≤st'.s.length):∀ (n:Nat) (ex:Ex) (st:St) (ex':Ex) (st':St),scopeJ again b n ex st=some (ex',st')→st.s.length≤st'.s.length
 | 0,ex,st,ex',st',h=>by
  cases ex with
  | goto l=>simp only [scopeJ] at h;cases h
  | _=>simp only [scopeJ] at h;cases h;exact Nat.le_refl _
 | n+1,ex,st,ex',st',h=>by
  cases ex with
  | goto l =>
   simp only [scopeJ] at h
   cases hf:findLabel b l with
   | none=>rw [hf] at h;cases h
   | some rest =>
    rw [hf] at h
    dsimp only at h
    split at h
    ·rename_i h1;exact Nat.le_trans (hb _ _ _ _ h1) (scopeJ_len hb n _ _ _ _ h)
    ·cases h
  | _=>simp only [scopeJ] at h;cases h;exact Nat.le_refl _
theorem execC_len {O:Orc} {self:Self} {L:Nat→St→Option (Ex × St)} (hL:∀ rid st ex st',L rid st=some (ex,st')→st.s.length≤st'.s.length) {again:Code→St→Option (Ex × St)} (hb:∀ c st ex st',again c st=some (ex,st')→st.s.length≤st'.s.length) (n:Nat):∀ (c:Code) (st:St) (ex:Ex) (st':St),execC P O self L again n c st=some (ex,st')→st.s.length≤st'.s.length
 | .skip,st,ex,st',h=>by cases h;exact Nat.le_refl _
 | .region _ ops false,st,ex,st',h=>by
  simp only [execC] at h
  split at h
  ·rename_i h1;cases h;exact runList_len _ _ _ h1
  ·cases h
 | .region _ ops true,st,ex,st',h=>by
  simp only [execC] at h
  split at h
  ·rename_i h1;cases h;exact runDrawn_len _ _ _ _ _ h1
  ·cases h
 | .seq a b,st,ex,st',h=>by
  simp only [execC] at h
  split at h
  ·rename_i st1 h1;exact Nat.le_trans (execC_len hL hb n a _ _ _ h1) (execC_len hL hb n b _ _ _ h)
  ·exact execC_len hL hb n a _ _ _ h
 | .cond _ a b,st,ex,st',h=>by
  simp only [execC] at h
  split at h
  ·exact execC_len hL hb n a _ _ _ h
  ·exact execC_len hL hb n b _ _ _ h
  ·cases h
 | .block id c,st,ex,st',h=>by
  simp only [execC] at h
  split at h
  ·rename_i id' st1 h1
   have:=execC_len hL hb n c _ _ _ h1
   split at h<;>(cases h;exact this)
  ·exact execC_len hL hb n c _ _ _ h
 | .loop c,st,ex,st',h=>by
  simp only [execC] at h
  split at h
  ·rename_i r hr;cases h;exact hL _ _ _ _ hr
  exact loopJ_len (fun st ex st' h1=>execC_len hL hb n c st ex st' h1) n _ _ _ h
 | .scope c,st,ex,st',h=>by
  simp only [execC] at h
  split at h
  ·rename_i h1;exact Nat.le_trans (execC_len hL hb n c _ _ _ h1) (scopeJ_len hb _ _ _ _ _ h)
  ·cases h
 | .exit _,st,ex,st',h=>by cases h;exact Nat.le_refl _
 | .label _,st,ex,st',h=>by cases h;exact Nat.le_refl _
 | .goto _,st,ex,st',h=>by cases h;exact Nat.le_refl _
 | .ret,st,ex,st',h=>by cases h;exact Nat.le_refl _
 | .rangeFunc ..,_,_,_,h=>by cases h
 | .refuse ..,_,_,_,h=>by cases h
theorem execN_len {O:Orc} {self:Self} {L:Nat→St→Option (Ex × St)} (hL:∀ rid st ex st',L rid st=some (ex,st')→st.s.length≤st'.s.length) (n:Nat):∀ (k:Nat) (c:Code) (st:St) (ex:Ex) (st':St),execN P O self L n k c st=some (ex,st')→st.s.length≤st'.s.length
 | 0,_,_,_,_,h=>by cases h
 | k+1,c,st,ex,st',h=>execC_len hL (fun c st ex st' h1=>execN_len hL n k c st ex st' h1) n c st ex st' h
theorem idm_some {m j k:Nat} (h:idm m j=some k):j=k∧j < m:=by
 unfold idm at h
 split at h
 ·rename_i hj;cases h;exact ⟨rfl,hj⟩
 ·cases h
theorem normT_post {X X':Map} {w w':World} {s s1:List Res} {r:PV} {v:Value} (hinv:Inv X w (fun i=>s[i]?)) (hlen:s.length≤s1.length) (hr:R X' r v) (hp:Acc X w (fun i=>s[i]?) X' w' (fun i=>s1[i]?)) :
  ∃ X'',R X'' (normT s.length (r,s1)).1 v∧Acc X w (fun i=>s[i]?) X'' w' (fun i=>(normT s.length (r,s1)).2[i]?):=by
 unfold normT
 split
 ·exact ⟨X',hr,hp⟩
 ·generalize hm:s.length=m at *
  let X'':Map:={ M:=X'.M,mb:=fun j=>if j < m then X'.mb j else none,mt:=fun j n=>if j < m then X'.mt j n else none,nu:=X'.nu }
  have hmb:∀ j,j < m→X''.mb j=X'.mb j:=fun j hj=>if_pos hj
  have hmt:∀ j,j < m→X''.mt j=X'.mt j:=fun j hj=>by funext n;exact if_pos hj
  have hid:∀ id j b,idm m id=some j→X'.mb id=some b→X''.mb j=some b:=fun id j b h hb=>by
   obtain ⟨rfl,hlt⟩:=idm_some h
   rw [hmb _ hlt];exact hb
  have hnone:∀ j,¬ j < m→X.mb j=none∧∀ n,X.mt j n=none:=fun j hj=>by
   have:=hinv.res j
   rw [List.getElem?_eq_none (by omega)] at this
   exact this
  have hget:∀ j,((s1.take m).map (keepRes (idm m)))[j]? = if j < m then (s1[j]?).map (keepRes (idm m)) else none:=fun j=>by
   rw [List.getElem?_map,List.getElem?_take]
   split<;>rfl
  have hown:∀ id b,Owns X'' id b (((s1.take m).map (keepRes (idm m)))[id]?)→id < m∧Owns X' id b (s1[id]?):=fun id b ho=>by
   rw [hget] at ho
   by_cases hj:id < m
   ·rw [if_pos hj] at ho
    refine ⟨hj,?_⟩
    cases hq:s1[id]? with
    | none=>rw [hq] at ho;exact ho.elim
    | some q =>
     rw [hq] at ho
     cases q with
     | dead=>exact ho.elim
     | box cs=>exact (hmb id hj).symm.trans ho
     | row e sz n cs=>obtain ⟨c,hc⟩:=ho;exact ⟨c,by rw [← hmt id hj];exact hc⟩
   ·rw [if_neg hj] at ho;exact ho.elim
  refine ⟨X'',hr.ren2 (X:=X') (Y:=X'') rfl (fun _ _ _ h=>h) hid,⟨⟨hp.le.M,fun j b hb=>?_,fun j n q hq=>?_,hp.le.nu⟩,hp.ok,hp.grow,hp.os,hp.tape,hp.output,hp.keep,hp.fresh,fun _ hn=>(hn trivial).elim,fun id _=>?_,fun id b _ ho=>?_,fun i j b _ _ ho1 ho2=>?_⟩⟩
  ·by_cases hj:j < m
   ·rw [hmb j hj];exact hp.le.mb j b hb
   ·rw [(hnone j hj).1] at hb;cases hb
  ·by_cases hj:j < m
   ·rw [hmt j hj];exact hp.le.mt j n q hq
   ·rw [(hnone j hj).2 n] at hq;cases hq
  ·show ResOk X'' w' id (((s1.take m).map (keepRes (idm m)))[id]?)
   rw [hget]
   by_cases hj:id < m
   ·rw [if_pos hj]
    have hr':=hp.res id trivial
    cases hq:s1[id]? with
    | none=>have:=List.getElem?_eq_none_iff.1 hq;omega
    | some q =>
     rw [hq] at hr'
     cases q with
     | dead=>trivial
     | box cs =>
      obtain ⟨b,us,e,a1,a2,a3,a4,a5,a6,a7⟩:=hr'
      refine ⟨b,us,e,(hmb id hj).trans a1,a2,by simpa using a3,a4,fun k c hc=>?_,a6,fun n=>by rw [hmt id hj];exact a7 n⟩
      obtain ⟨q,hq,rfl⟩:=map_get hc
      exact (a5 k q hq).ren1 (X:=X') (Y:=X'') rfl (fun _ _ _ h=>h) hid
     | row e sz n cs =>
      obtain ⟨b,cap,us,a1,a2,a3,a4,a5,a6,a7,a8,a9,b1,b2,b3⟩:=hr'
      have hM:X'.M=X''.M:=rfl
      refine ⟨b,cap,us,by rw [hmt id hj];exact a1,a2,a3,a4,a5,a6,fun k hk=>by rw [hmt id hj];exact a7 k hk,(hmb id hj).trans a8,a9,by simpa using b1,fun k c hc=>?_,b3⟩
      obtain ⟨q,hq,rfl⟩:=map_get hc
      exact (b2 k q hq).ren1 (X:=X') (Y:=X'') rfl (fun _ _ _ h=>h) hid
   ·rw [if_neg hj]
    exact ⟨if_neg hj,fun n=>if_neg hj⟩
  ·exact hp.own id b trivial (hown id b ho).2
  ·exact hp.dis i j b trivial trivial (hown i b ho1).2 (hown j b ho2).2
theorem settleS_get (m:Nat) (s:List Res):∀ (l:List Res) (i k:Nat),(settleS P m s i l)[k]? = (l[k]?).map fun x=>match x with
  | .row e sz n cs=>if m≤i+k then .dead else .row e sz n cs
  | .box cs=>.box (cs.map (see0 P m s))
  | .dead=>.dead
 | [],i,k=>by simp [settleS]
 | .row e sz n cs::l,i,0=>by simp [settleS]
 | .box cs::l,i,0=>by simp [settleS]
 | .dead::l,i,0=>by simp [settleS]
 | .row e sz n cs::l,i,k+1=>by
  simp only [settleS,List.getElem?_cons_succ]
  rw [settleS_get m s l (i+1) k,show i+1+k=i+(k+1) by omega]
 | .box cs::l,i,k+1=>by
  simp only [settleS,List.getElem?_cons_succ]
  rw [settleS_get m s l (i+1) k,show i+1+k=i+(k+1) by omega]
 | .dead::l,i,k+1=>by
  simp only [settleS,List.getElem?_cons_succ]
  rw [settleS_get m s l (i+1) k,show i+1+k=i+(k+1) by omega]
theorem settleS_len (m:Nat) (s:List Res):∀ (l:List Res) (i:Nat),(settleS P m s i l).length=l.length
 | [],_=>rfl
 | .row e sz n cs::l,i=>by simp only [settleS,List.length_cons];rw [settleS_len m s l]
 | .box cs::l,i=>by simp only [settleS,List.length_cons];rw [settleS_len m s l]
 | .dead::l,i=>by simp only [settleS,List.length_cons];rw [settleS_len m s l]
theorem norm_post {X X':Map} {w w':World} {s s1:List Res} {r:PV} {v:Value} (hinv:Inv X w (fun i=>s[i]?)) (hlen:s.length≤s1.length) (hr:R X' r v) (hp:Acc X w (fun i=>s[i]?) X' w' (fun i=>s1[i]?)) :
  ∃ X'',R X'' (normS P s.length (r,s1)).1 v∧Acc X w (fun i=>s[i]?) X'' w' (fun i=>(normS P s.length (r,s1)).2[i]?):=by
 have hres:∀ id,s.length≤id→ResOk X' w' id (s1[id]?):=fun id _=>hp.res id trivial
 have hle:=lend_le (s:=fun i=>s1[i]?) (S:=fun id=>s.length≤id) hres
 have hsn:∀ id,s.length≤id→s[id]? = none:=fun id h=>List.getElem?_eq_none h
 have hM:∀ b o,¬ lendC X' (fun i=>s1[i]?) (fun id=>s.length≤id) b o→(X'.lend w' (fun i=>s1[i]?) (fun id=>s.length≤id)).M b o=X'.M b o:=fun b o hc=>by simp only [Map.lend,if_neg hc]
 have hrow:∀ b o,lendC X' (fun i=>s1[i]?) (fun id=>s.length≤id) b o→∃ id,s.length≤id∧Owns X' id b (s1[id]?)∧∃ e sz n cs,s1[id]? = some (.row e sz n cs):=fun b o hc=>by
  obtain ⟨id,e,sz,n,cs,cap,h1,h2,h3,h4⟩:=hc
  exact ⟨id,h1,by rw [show s1[id]? = _ from h2];exact ⟨cap,h3⟩,e,sz,n,cs,h2⟩
 have hown:∀ id b,Owns (X'.lend w' (fun i=>s1[i]?) (fun id=>s.length≤id)) id b ((settleS P s.length s1 0 s1)[id]?)→Owns X' id b (s1[id]?):=fun id b ho=>by
  rw [settleS_get] at ho
  cases hq:s1[id]? with
  | none=>rw [hq] at ho;exact ho.elim
  | some q =>
   rw [hq] at ho
   cases q with
   | dead=>exact ho.elim
   | box cs=>exact ho
   | row e sz n cs =>
    simp only [Option.map_some] at ho
    split at ho
    ·exact ho.elim
    ·exact ho
 have hacc:Acc X w (fun i=>s[i]?) (X'.lend w' (fun i=>s1[i]?) (fun id=>s.length≤id)) w' (fun i=>(settleS P s.length s1 0 s1)[i]?):=by
  refine ⟨hp.le.trans hle,lend_ok hp.ok,hp.grow,hp.os,hp.tape,hp.output,hp.keep,fun b o u hu=>?_,fun _ hn=>(hn trivial).elim,fun id _=>?_,fun id b _ ho=>hp.own id b trivial (hown id b ho),fun i j b _ _ ho1 ho2=>hp.dis i j b trivial trivial (hown i b ho1) (hown j b ho2)⟩
  ·by_cases hc:lendC X' (fun i=>s1[i]?) (fun id=>s.length≤id) b o
   ·obtain ⟨id,h1,h2,_⟩:=hrow b o hc
    rcases hp.own id b trivial h2 with h'|h'
    ·rw [hsn id h1] at h';exact h'.elim
    ·exact .inr (.inr h')
   ·rw [hM b o hc] at hu;exact hp.fresh b o u hu
  ·show ResOk _ w' id ((settleS P s.length s1 0 s1)[id]?)
   have hr':=hp.res id trivial
   rw [settleS_get]
   cases hq:s1[id]? with
   | none=>rw [hq] at hr';exact hr'
   | some q =>
    rw [hq] at hr'
    have hfree:∀ b o,Owns X' id b (s1[id]?)→(∀ e sz n cs,s1[id]? = some (.row e sz n cs)→id < s.length)→X'.M b o=none→(X'.lend w' (fun i=>s1[i]?) (fun id=>s.length≤id)).M b o=none:=fun b o ho hn hb=>by
     rw [hM b o ?_];exact hb
     intro hc
     obtain ⟨id',h1,h2,e,sz,n,cs,h3⟩:=hrow b o hc
     have:=hp.dis id id' b trivial trivial ho h2
     subst this
     have:=hn e sz n cs h3
     omega
    cases q with
    | dead=>trivial
    | box cs =>
     obtain ⟨b,us,e,a1,a2,a3,a4,a5,a6,a7⟩:=hr'
     refine ⟨b,us,e,a1,a2,by simpa using a3,fun o=>hfree b o (by rw [hq];exact a1) (fun e sz n cs h=>by rw [hq] at h;cases h) (a4 o),fun k c hc=>?_,a6,a7⟩
     obtain ⟨q,hq',rfl⟩:=map_get hc
     exact (a5 k q hq').see0 hres (fun g n _ hm=>hm)
    | row e sz n cs =>
     simp only [Option.map_some,Nat.zero_add]
     by_cases hm:s.length≤id
     ·rw [if_pos hm];trivial
     ·rw [if_neg hm]
      obtain ⟨b,cap,us,a1,a2,a3,a4,a5,a6,a7,a8,a9,b1,b2,b3⟩:=hr'
      exact ⟨b,cap,us,a1,a2,a3,a4,a5,fun o=>hfree b o (by rw [hq];exact ⟨cap,a1⟩) (fun _ _ _ _ _=>by omega) (a6 o),a7,a8,a9,b1,fun k c hc=>(b2 k c hc).mono hle,b3⟩
 exact normT_post hinv (by rw [settleS_len];exact hlen) (hr.see2 hres (fun g hm=>hm)) hacc
structure OrcOk (P:Program) (nu:Nat→PV) (O:Orc):Prop extends OrcOk0 P nu O where
 loop:∀ f fn body,bodyOf P f=some (fn,body)→∀ X0 w0 s0,X0.nu=nu→LoopsTold P fn.ntmps X0 w0 s0 (loopsIn body) (O.loop f)
 loopLen:∀ f rid st ex st',O.loop f rid st=some (ex,st')→st.s.length≤st'.s.length
theorem noOrc_ok (P:Program) (nu:Nat→PV):OrcOk P nu noOrc:={ noOrc_ok0 P nu with loop:=fun _ _ _ _ _ _ _ _ _ _ _ _ _ h=>(by cases h),loopLen:=fun _ _ _ _ _ h=>(by cases h) }
theorem callB_sound (hP:progOk P=true) {nu:Nat→PV} {O:Orc} (hO:OrcOk P nu O) {self:Self} (hself:SelfOk P nu self) (k:Nat) {g:FuncId} {args:List PV} {s:List Res} {r:PV} {s':List Res} (h:callB P O self k g args s=some (r,s')) :
  s.length≤s'.length∧(∃ fn,P.funcs[g]? = some fn∧(fn.name == "runtime.NumGoroutine")=false∧fn.body.isSome=true) ∧
 ∀ X w (vs:Array Value),X.nu=nu→vs.size=args.length→(∀ (j:Nat) p,args[j]? = some p→R X p (vs.getD j Go.undef))→Inv X w (fun i=>s[i]?) →
  Calls P g vs w fun e w'=>∃ v X',e = .returned v∧R X' r v∧Post X X' w w' (fun i=>s[i]?) (fun i=>s'[i]?) (fun _=>True):=by
  unfold callB at h
  split at h
  ·rename_i v hv
   cases h
   obtain ⟨hfn,hcall⟩:=hO.prim g args r hv
   refine ⟨Nat.le_refl _,hfn,fun X w vs h0 h1 h2 h3=>?_⟩
   refine (hcall X w vs h0 h1 h2 h3.ok).mono ?_
   rintro e w' ⟨v,X',he,hr,hpost⟩
   exact ⟨v,X',he,hr,(Acc.refl h3).post (s':=fun i=>s[i]?) (hpost.congr (t:=fun i=>s[i]?) (t':=fun i=>s[i]?) (fun _ h=>h.elim) (fun _ h=>h.elim)) (fun _ _=>rfl)⟩
  ·split at h
   ·rename_i fn c hb
    have hfn:P.funcs[g]? = some fn∧fn.body=some c:=by
     unfold bodyOf at hb
     split at hb
     ·rename_i fn' hf
      split at hb
      ·rename_i c' hc;cases hb;exact ⟨hf,hc⟩
      ·cases hb
     ·cases hb
    obtain ⟨hf,hbody⟩:=hfn
    have hok:codeOk fn.ntmps c=true∧(fn.name == "runtime.NumGoroutine")=false∧P.follows .mixedOrders=true:=by
     unfold progOk at hP
     simp only [Bool.and_eq_true] at hP
     have:=List.all_eq_true.1 hP.1 fn (by simpa using Array.mem_of_getElem? hf)
     rw [hbody] at this
     simp only [Bool.and_eq_true,Bool.not_eq_true'] at this
     exact ⟨this.1,this.2,hP.2⟩
    obtain ⟨hcode,hname,hmix⟩:=hok
    have key:∀ (ex:Ex) (st:St),execN P O self (O.loop g) k 3 c ⟨argsT 0 args,s⟩=some (ex,st)→(ex = .normal∨ex = .ret)→(match resultP P st.s st.T fn.results.toList with|some [v]=>some (v,st.s)|some l=>some (.tup l,st.s)|none=>none)=some (r,s') →
      ∀ X w (vs:Array Value),X.nu=nu→vs.size=args.length→(∀ (j:Nat) p,args[j]? = some p→R X p (vs.getD j Go.undef))→Inv X w (fun i=>s[i]?) →
      Calls P g vs w fun e w'=>∃ v X',e = .returned v∧R X' r v∧Post X X' w w' (fun i=>s[i]?) (fun i=>s'[i]?) (fun _=>True):=by
     intro ex st hex hexe hres X w vs hnu hvs hR hinv
     refine calls_of_wp hf hbody ?_
     have hrel:RelSt P fn.ntmps X w (fun i=>s[i]?) X w ⟨argsT 0 args,s⟩ { tmps:=vs++Array.replicate (fn.ntmps - vs.size) Go.undef,defers:=[] }:=by
      refine ⟨Acc.refl hinv,fun t=>?_,by simp;omega,rfl⟩
      show R X (lookupT (argsT 0 args) t) _
      rw [argsT_lookup,if_pos (Nat.zero_le _),Nat.sub_zero]
      split
      ·rename_i p hp
       have hlt:=lt_of_get hp
       have:(vs++Array.replicate (fn.ntmps - vs.size) Go.undef).getD t Go.undef=vs.getD t Go.undef:=by
        simp only [Array.getD_eq_getD_getElem?]
        rw [Array.getElem?_append_left (by omega)]
       rw [this]
       exact hR t p hp
      ·exact .any _
     refine wp_mono (execN_sound hnu hO.toOrcOk0 hself hmix (hO.loop g fn c hb X w (fun i=>s[i]?) hnu) k 3 c _ _ _ hex hcode (fun _ h=>h) X w _ hrel) ?_
     rintro e a' w' ⟨rfl,X',hr⟩
     have hdone:∃ v,(results fn a'.tmps).run P w' = .ok v w'∧R X' r v∧s'=st.s:=by
      have hmap:∀ vs:List Value,(fn.results.toList.mapM (resVar a')).run P w' = .ok vs w' →
        (results fn a'.tmps).run P w' = .ok (if h:vs.toArray.size=1 then vs.toArray[0] else .tuple vs.toArray) w':=fun vs hvs=>by
       rw [results_eq,Array.mapM_eq_mapM_toList]
       simp only [Sem.run_bind,Sem.run_map,hvs,Result.andThen_ok,Sem.run_pure]
      split at hres
      ·rename_i v hv
       cases hres
       obtain ⟨us,h1,h2,h3⟩:=run_results hr _ _ hv
       cases us with
       | nil=>simp at h2
       | cons u us=>cases us with
        | nil=>exact ⟨u,hmap _ h1,h3 0 _ rfl,rfl⟩
        | cons _ _=>simp at h2
      ·rename_i l hne hv
       cases hres
       obtain ⟨us,h1,h2,h3⟩:=run_results hr _ _ hv
       have hlen:us.toArray.size≠1:=fun h=>by
        have:l.length=1:=by rw [← h2];simpa using h
        match l,this with
        | [v],_=>exact hne v rfl
       refine ⟨.tuple us.toArray,(hmap _ h1).trans (by rw [dif_neg hlen]), .tup _ _ (by simpa using h2) (fun j c hj=>?_),rfl⟩
       have:=h3 j c hj
       have e:us.toArray.getD j Go.undef=us.getD j Go.undef:=by simp [Array.getD_eq_getD_getElem?,List.getD_eq_getElem?_getD]
       rw [e];exact this
      ·cases hres
     obtain ⟨v,hv,hRv,rfl⟩:=hdone
     rcases hexe with rfl|rfl
     ·exact ⟨hr.defers,v,hv,v,X',rfl,hRv,hr.acc⟩
     ·exact ⟨hr.defers,v,hv,v,X',rfl,hRv,hr.acc⟩
    have hex2:∃ ex st,execN P O self (O.loop g) k 3 c ⟨argsT 0 args,s⟩=some (ex,st)∧(ex = .normal∨ex = .ret)∧(match resultP P st.s st.T fn.results.toList with|some [v]=>some (v,st.s)|some l=>some (.tup l,st.s)|none=>none)=some (r,s'):=by
     unfold fin at h
     split at h
     ·rename_i st hx
      exact ⟨.normal,st,hx, .inl rfl,h⟩
     ·rename_i st hx
      exact ⟨.ret,st,hx, .inr rfl,h⟩
     ·cases h
    obtain ⟨ex,st,h1,h2,h3⟩:=hex2
    refine ⟨?_,⟨fn,hf,hname,by rw [hbody];rfl⟩,fun X w vs a0 a1 a2 a3=>key ex st h1 h2 h3 X w vs a0 a1 a2 a3⟩
    have hlen:=execN_len (hO.loopLen g) _ _ _ _ _ _ h1
    have:s'=st.s:=by
     split at h3<;>first|(cases h3;rfl)|(cases h3)
    rw [this];exact hlen
   ·cases h
theorem row_post {X:Map} {w w':World} {s:List Res} {v:Value} {e:TypeId} {sz n:Nat} {cs:List PV} (hinv:Inv X w (fun i=>s[i]?)) (h:RowPost X w w' v e sz n cs) :
  ∃ X',R X' (.ms s.length n) v∧Acc X w (fun i=>s[i]?) X' w' (fun i=>(s++[Res.row e sz n cs])[i]?):=by
 obtain ⟨X1,b,cap,us,rfl,hb,h1,h2,h3,h4,h5,h6,h7,h8,h9,hp⟩:=h
 have hn:=hinv.res s.length
 rw [List.getElem?_eq_none (Nat.le_refl _)] at hn
 have e1:X1.mb=X.mb:=funext fun id=>(hp.ids id (fun h=>h.elim)).1
 have e2:X1.mt=X.mt:=funext fun id=>(hp.ids id (fun h=>h.elim)).2
 let X2:Map:={ X1 with mt:=fun i m=>if i=s.length∧m=n then some (b,cap) else X1.mt i m }
 have hnone:∀ m,X1.mt s.length m=none:=fun m=>by rw [e2];exact hn.2 m
 have hle:X1.Le X2:=by
  refine ⟨fun _ _ _ h=>h,fun _ _ h=>h,fun i m v h=>?_,rfl⟩
  show (if i=s.length∧m=n then some (b,cap) else X1.mt i m)=some v
  split
  ·rename_i hc
   rw [hc.1,hnone] at h;cases h
  ·exact h
 have hmt:X2.mt s.length n=some (b,cap):=if_pos ⟨rfl,rfl⟩
 have hget:(s++[Res.row e sz n cs])[s.length]? = some (.row e sz n cs):=by simp
 refine ⟨X2, .ms _ _ b cap hmt,(Acc.refl hinv).post (W:=fun id=>id=s.length) ⟨hp.le.trans hle,hp.ok,hp.grow,hp.os,hp.tape,hp.output,fun k hk _=>hp.keep k hk (fun _ h _=>h.elim),fun b' o v hv=>?_,fun id hid=>⟨?_,?_⟩,fun id hid=>?_,fun id b' hid ho=>?_,fun i j b' hi hj _ _=>hi.trans hj.symm⟩ fun id hid=>?_⟩
 ·rcases hp.fresh b' o v hv with h'|⟨_,hf,_⟩|h'
  ·exact .inl h'
  ·exact hf.elim
  ·exact .inr (.inr h')
 ·exact congrFun e1 id
 ·funext m
  show (if id=s.length∧m=n then some (b,cap) else X1.mt id m)=X.mt id m
  rw [if_neg (fun h=>hid h.1),e2]
 ·subst hid
  show ResOk X2 w' s.length ((s++[Res.row e sz n cs])[s.length]?)
  rw [hget]
  refine ⟨b,cap,us,hmt,h1,h2,h3,h4,h5,fun k hk=>?_,(congrFun e1 _).trans hn.1,h6,h7,fun j c hc=>(h8 j c hc).mono hle,h9⟩
  show (if s.length=s.length∧k=n then some (b,cap) else X1.mt s.length k)=none
  rw [if_neg (by omega),hnone]
 ·subst hid
  have ho':Owns X2 s.length b' ((s++[Res.row e sz n cs])[s.length]?):=ho
  rw [hget] at ho'
  obtain ⟨cap',hc⟩:=ho'
  rw [hmt] at hc
  cases hc
  exact .inr hb
 ·show (s++[Res.row e sz n cs])[id]? = s[id]?
  by_cases hlt:id < s.length
  ·rw [List.getElem?_append_left hlt]
  ·have:s.length < id:=by
    have:id≠s.length:=hid
    omega
   rw [List.getElem?_eq_none (by simp;omega),List.getElem?_eq_none (by omega)]
theorem callF_sound (hP:progOk P=true) {nu:Nat→PV} {O:Orc} (hO:OrcOk P nu O):∀ k,SelfOk P nu (callF P O k)
 | 0=>fun g args s r s' h=>by cases h
 | k+1=>by
  intro g args s r s' h
  unfold callF at h
  split at h
  ·rename_i q hq
   cases h
   exact hO.st _ _ _ _ _ hq
  split at h
  ·rename_i e sz n cs ho
   cases h
   obtain ⟨hfn,hcall⟩:=hO.row g args e sz n cs ho
   refine ⟨by simp,hfn,fun X w vs a0 a1 a2 a3=>(hcall X w vs a0 a1 a2 a3.ok).mono ?_⟩
   rintro ex w' ⟨v,he,hp⟩
   obtain ⟨X',k1,k2⟩:=row_post a3 hp
   exact ⟨v,X',he,k1,k2⟩
  split at h
  ·rename_i q hq
   obtain ⟨r1,s1⟩:=q
   obtain ⟨h1,h2,h3⟩:=callB_sound hP hO (callF_sound hP hO k) k hq
   have hrs:=Option.some.inj h
   have hr1:r=(normS P s.length (r1,s1)).1:=by rw [hrs]
   have hs1:s'=(normS P s.length (r1,s1)).2:=by rw [hrs]
   refine ⟨?_,h2,fun X w vs a0 a1 a2 a3=>(h3 X w vs a0 a1 a2 a3).mono ?_⟩
   ·rw [hs1]
    unfold normS normT
    split
    ·simp only [settleS_len];exact h1
    ·simp [settleS_len];omega
   ·rintro e w' ⟨v,X',he,hr,hp⟩
    obtain ⟨X'',k1,k2⟩:=norm_post a3 h1 hr hp
    exact ⟨v,X'',he,by rw [hr1];exact k1,by rw [hs1];exact k2⟩
  ·cases h
end
end Go.Proofs.YtdlkibeljkapeaaGreatDoor.Den
