-- Written by drive.py and pack.py (programs of this proof's own) through the kit's printer; not trusted: Lean checks it.
import Derived.Test.YtdlkibeljkapeaaGreatDoorCSqlKnown5
namespace Go.Proofs.YtdlkibeljkapeaaGreatDoor.Den
open Go Go.RowKit
noncomputable abbrev Lp (fs:List Fact) (a r:PV):Bool:=okR r (callF PG (fOrc noOwn fs) 20 Bt [a] [])
def Uu:Fact:=.st H9 [.agg [.fn Aq [] []], .fn Ie [] [.box 0 0]] [.box [.atom 5]] (.atom 12) [.box [.atom 5]]
theorem Oe:Lp [sA (.str (kw "insert into ")) (.atom 2) (.atom 10),sA (.atom 10) (.str (kw " values (")) (.atom 11),Uu,sA (.atom 11) (.atom 12) (.atom 13),sA (.atom 13) (.str (kw ")")) (.atom 14)] (Dv (nI 4) Au (.atom 2) (.str []) (.str []) (.atom 5) E7.zero.L E7.zero.L) (.atom 14)=true:=by kernel_rfl
open Go Go.RowKit
theorem Nu {a t:List UInt8} (h:a≠[]):Go.Proofs.SqlSeq.stepS ⟨a.toArray⟩ ⟨t.toArray⟩=⟨(a++([44,32]++t)).toArray⟩:=by
 unfold Go.Proofs.SqlSeq.stepS
 rw [if_neg (fun e=>h (by
  have:=congrArg (fun x:ByteArray=>x.data.toList) e
  simpa using this))]
 apply ByteArray.ext
 rw [ByteArray.data_append,ByteArray.data_append]
 simp
theorem Jv:∀ (l:List (List UInt8)) (a:List UInt8),a≠[]→(l.map fun t=>(⟨t.toArray⟩:ByteArray)).foldl Go.Proofs.SqlSeq.stepS ⟨a.toArray⟩=⟨(a++l.flatMap fun t=>[44,32]++t).toArray⟩
 | [],a,_=>by simp
 | t::l,a,h=>by
  rw [List.map_cons,List.foldl_cons,Nu h,Jv l _ (by simp)]
  simp
theorem Iz (t:List UInt8) (l:List (List UInt8)) (h:t≠[]):joinL (t::l)=t++l.flatMap fun t=>[44,32]++t:=by
 unfold joinL Go.Proofs.SqlSeq.joinS
 rw [List.map_cons,List.foldl_cons]
 have:Go.Proofs.SqlSeq.stepS ⟨#[]⟩ ⟨t.toArray⟩=⟨t.toArray⟩:=by
  unfold Go.Proofs.SqlSeq.stepS
  rw [if_pos rfl]
  apply ByteArray.ext
  rw [ByteArray.data_append]
  simp
 rw [this,Jv l t h]
theorem I0:∀ (v:V4 × List UInt8) (vs:List (V4 × List UInt8)),Az (v::vs)=v.2++(vs.map (·.2)).flatMap fun t=>[44,32]++t
 | v,[]=>by simp [Az]
 | v,w::vs=>by
  have h:kw ", " = [44,32]:=by decide
  show v.2++(kw ", " ++ Az (w::vs))=_
  rw [I0 w vs,h]
  simp
theorem L8 (vs:List (V4 × List UInt8)) (h:∀ v∈vs,v.2≠[]) (h0:vs≠[]):joinL (vs.map (·.2))=Az vs:=by
 cases vs with
 | nil=>exact absurd rfl h0
 | cons v vs=>rw [List.map_cons,Iz _ _ (h v (by simp)),I0]
end Go.Proofs.YtdlkibeljkapeaaGreatDoor.Den
namespace Go.Proofs
open Go.RowKit Go.Shelf
attribute [local go_sem] Oper.semAt_some
namespace SqlSeq
structure Ao where
 nm:ByteArray
 cols:Value
 key:Int
 uniq:Value
 ck:Int
 c1:Value
 c2:Value
 c3:Value
 c4:Value
 c5:Value
 c6:Value
 links:Value
def Ao.at (t:Ao) (W:World) (B:Nat):Prop :=
 W.cell? ⟨B,0,none⟩=some (.string t.nm)∧W.cell? ⟨B,1,none⟩=some t.cols∧W.cell? ⟨B,2,none⟩=some (.int .i64 t.key)∧W.cell? ⟨B,3,none⟩=some t.uniq∧W.cell? ⟨B,4,none⟩=some (.int .i64 t.ck) ∧
 W.cell? ⟨B,5,none⟩=some t.c1∧W.cell? ⟨B,6,none⟩=some t.c2∧W.cell? ⟨B,7,none⟩=some t.c3∧W.cell? ⟨B,8,none⟩=some t.c4∧W.cell? ⟨B,9,none⟩=some t.c5∧W.cell? ⟨B,10,none⟩=some t.c6∧W.cell? ⟨B,11,none⟩=some t.links
theorem Ao.at.below {t:Ao} {n₀ B:Nat} {A C:World} (hb:Below n₀ A C) (hB:B < n₀) (h:t.at A B):t.at C B:=by
 obtain ⟨h0,h1,h2,h3,h4,h5,h6,h7,h8,h9,h10,h11⟩:=h
 have f:∀ o v,A.cell? ⟨B,o,none⟩=some v→C.cell? ⟨B,o,none⟩=some v:=fun o v hv=>(hb.cell (p:=⟨B,o,none⟩) hB).trans hv
 exact ⟨f _ _ h0,f _ _ h1,f _ _ h2,f _ _ h3,f _ _ h4,f _ _ h5,f _ _ h6,f _ _ h7,f _ _ h8,f _ _ h9,f _ _ h10,f _ _ h11⟩
def Ao.ckV (t:Ao):Value:=.agg #[.int .i64 t.ck,t.c1,t.c2,t.c3,t.c4,t.c5,t.c6]
def Ao.val (t:Ao):Value:=.agg #[.string t.nm,t.cols, .int .i64 t.key,t.uniq, .int .i64 t.ck,t.c1,t.c2,t.c3,t.c4,t.c5,t.c6,t.links]
abbrev C3:=ByteArray × Int × Bool
def Cd (c:C3):Value:=.agg #[.string c.1, .int .i64 c.2.1, .bool c.2.2]
theorem below_grown {A C:World} (h:Below A.heap.size A C):A.grownBy C none:=⟨h.os,h.tape,h.output,h.size,fun b hb _=>h.block b hb⟩
def Dw:ByteArray:=⟨#[112,114,105,109,97,114,121,32,107,101,121,32,40]⟩
def D2:ByteArray:=⟨#[117,110,105,113,117,101,32,40]⟩
def D1:ByteArray:=⟨#[99,104,101,99,107,32,40]⟩
def Di:ByteArray:=⟨#[102,111,114,101,105,103,110,32,107,101,121,32,40]⟩
def Dc:ByteArray:=⟨#[41,32,114,101,102,101,114,101,110,99,101,115,32]⟩
theorem B0 {k o e:ByteArray} (hk:k.size≤100) (ho:o.size≤50000) (he:e.size≤100):k.size+o.size≤maxLen∧(k++o).size+e.size≤maxLen:=by
 rw [ByteArray.size_append]
 unfold maxLen
 omega
theorem M5 {k o e f:ByteArray} (hk:k.size≤100) (ho:o.size≤50000) (he:e.size≤100) (hf:f.size≤100):(k++o++e).size+f.size≤maxLen:=by
 rw [ByteArray.size_append,ByteArray.size_append]
 unfold maxLen
 omega
theorem Nl {e:Ending} {A B C:Prop} (h:(e = .returned (.bool true)∧A∧B)∨(e = .returned (.bool false)∧C)):∃ bb,e = .returned (.bool bb)∧(bb=true→A∧B)∧(bb=false→C):=by
 rcases h with ⟨rfl,h1,h2⟩|⟨rfl,h1⟩
 ·exact ⟨true,rfl,(fun _=>⟨h1,h2⟩),(fun h=>by cases h)⟩
 ·exact ⟨false,rfl,(fun h=>by cases h),fun _=>h1⟩
theorem Je (W:World) (x:Int × ByteArray):(W.alloc (.cells #[.int .i64 x.1, .string x.2] 103)).cell? ⟨W.heap.size,0,none⟩=some (.int .i64 x.1)∧(W.alloc (.cells #[.int .i64 x.1, .string x.2] 103)).cell? ⟨W.heap.size,1,none⟩=some (.string x.2):=by
 unfold World.cell?
 rw [World.alloc_heap_new]
 exact ⟨rfl,rfl⟩
set_option maxRecDepth 100000 in
set_option maxHeartbeats 16000000 in
theorem J6 (n:Nat) (_hn:2≤n) (l B:Nat) (t:Ao) (i:Int) (lk ow:ByteArray) (how:ow.size≤50000) (hlk:lk.size≤100) (b8:Nat) (W5:World) (ht:t.at W5 B) (c0:W5.cell? ⟨b8,0,none⟩=some (.int .i64 i)) (c1:W5.cell? ⟨b8,1,none⟩=some (.string lk)) (hlt8:b8 < W5.heap.size)
  (hcall:CallsIn Fence.wide (n - 1) Tryz.prog 63 #[t.val, .int .i64 i] W5.drew fun e W''=>e = .returned (.string ow)∧Below W5.drew.heap.size W5.drew W'')
  (post:Bool→World→World→Prop)
  (hgo:∀ w2,Below W5.drew.heap.size W5.drew w2→YieldAt Fence.wide (n - 1) Tryz.prog l #[.string (⟨#[102,111,114,101,105,103,110,32,107,101,121,32,40]⟩++ow++⟨#[41,32,114,101,102,101,114,101,110,99,101,115,32]⟩++lk)] w2 fun e W'=>∃ bb,e = .returned (.bool bb)∧post bb w2 W')
  (u2 u3 u4 u5 u6 u7 u9 u10 u11 u12 u13 u14 u15 u16 u17 u18 u19 u20 u21 u22 u23 u24 u25 u26 u27 u28 u29 u30 u31 u32 u33 u34 u35 u36 u37 u38 u39 u40 u41 u42 u43 u44 u45 u46 u47 u48 u49 u50 u51 u52 u53 u54 u55 u56 u57 u58 u59 u60 u61 u62 u63 u64 u65 u66 u67 u68 u69 u70 u71 u72 u73 u74 u75 u76 u77 u78 u79 u80:Value) (K0:Act→World→Prop)
  (hQ:∀ bb w2 W6,Below W5.drew.heap.size W5.drew w2→post bb w2 W6→K0 { tmps:=((.func (.yield l) #[] #[])::(.pointer (some ⟨B,0,none⟩))::u2::u3::u4::u5::u6::u7::(.pointer (some ⟨b8,0,none⟩))::u9::u10::u11::u12::u13::u14::u15::u16::u17::u18::u19::u20::u21::u22::u23::u24::u25::u26::u27::u28::u29::u30::u31::u32::u33::u34::u35::u36::u37::u38::u39::u40::u41::u42::u43::u44::u45::u46::u47::u48::u49::u50::u51::u52::u53::u54::u55::u56::u57::u58::u59::u60::u61::u62::u63::u64::u65::u66::u67::(.func (.yield l) #[] #[])::t.val::(.pointer (some ⟨b8,0,none⟩))::(.int .i64 i)::(.string ow)::(.string (⟨#[102,111,114,101,105,103,110,32,107,101,121,32,40]⟩++ow))::(.string (⟨#[102,111,114,101,105,103,110,32,107,101,121,32,40]⟩++ow++⟨#[41,32,114,101,102,101,114,101,110,99,101,115,32]⟩))::(.pointer (some ⟨b8,1,none⟩))::(.string lk)::(.string (⟨#[102,111,114,101,105,103,110,32,107,101,121,32,40]⟩++ow++⟨#[41,32,114,101,102,101,114,101,110,99,101,115,32]⟩++lk))::(.bool bb)::(.bool (!bb))::u80::([]:List Value)).toArray,defers:=[] } W6) :
  Code.wpIn Fence.wide n Tryz.prog (Code.region 15 #[{ dst:=some 68,op:=Op.move (Operand.tmp 0),type:=104,pos := "sql.go:180", after:=#[],guard:=none },{ dst:=some 69,op:=Op.load 34 (Operand.tmp 1),type:=34,pos := "sql.go:180", after:=#[],guard:=none },{ dst:=some 70,op:=Op.fieldAddr 103 (Operand.tmp 8) 0,type:=0,pos := "sql.go:180", after:=#[],guard:=none },{ dst:=some 71,op:=Op.load 3 (Operand.tmp 70),type:=3,pos := "sql.go:180", after:=#[{ on:=2,ground:=Ground.data }],guard:=none },{ dst:=some 72,op:=Op.call { callee:=Callee.value (Operand.func 63),args:=#[Operand.tmp 69,Operand.tmp 71],argTypes:=#[34,3] },type:=9,pos := "sql.go:180", after:=#[{ on:=1,ground:=Ground.data },{ on:=3,ground:=Ground.data }],guard:=none },{ dst:=some 73,op:=Op.binOp BinOp.add 9 (Operand.const (Value.string { data:=#[102,111,114,101,105,103,110,32,107,101,121,32,40] })) (Operand.tmp 72) 9,type:=9,pos := "sql.go:180", after:=#[{ on:=4,ground:=Ground.data }],guard:=none },{ dst:=some 74,op:=Op.binOp BinOp.add 9 (Operand.tmp 73) (Operand.const (Value.string { data:=#[41,32,114,101,102,101,114,101,110,99,101,115,32] })) 9,type:=9,pos := "sql.go:180", after:=#[{ on:=5,ground:=Ground.data }],guard:=none },{ dst:=some 75,op:=Op.fieldAddr 103 (Operand.tmp 8) 1,type:=0,pos := "sql.go:180", after:=#[],guard:=none },{ dst:=some 76,op:=Op.load 9 (Operand.tmp 75),type:=9,pos := "sql.go:180", after:=#[{ on:=7,ground:=Ground.data }],guard:=none },{ dst:=some 77,op:=Op.binOp BinOp.add 9 (Operand.tmp 74) (Operand.tmp 76) 9,type:=9,pos := "sql.go:180", after:=#[{ on:=6,ground:=Ground.data },{ on:=8,ground:=Ground.data }],guard:=none },{ dst:=some 78,op:=Op.call { callee:=Callee.value (Operand.tmp 68),args:=#[Operand.tmp 77],argTypes:=#[9] },type:=4,pos := "sql.go:180", after:=#[{ on:=0,ground:=Ground.data },{ on:=9,ground:=Ground.data },{ on:=4,ground:=Ground.chain }],guard:=none },{ dst:=some 79,op:=Op.unOp UnOp.not 4 (Operand.tmp 78),type:=4,pos := "sql.go:180", after:=#[{ on:=10,ground:=Ground.data }],guard:=none }] true) (Exit.then K0 (fun _ _ _=>False)) { tmps:=((.func (.yield l) #[] #[])::(.pointer (some ⟨B,0,none⟩))::u2::u3::u4::u5::u6::u7::(.pointer (some ⟨b8,0,none⟩))::u9::u10::u11::u12::u13::u14::u15::u16::u17::u18::u19::u20::u21::u22::u23::u24::u25::u26::u27::u28::u29::u30::u31::u32::u33::u34::u35::u36::u37::u38::u39::u40::u41::u42::u43::u44::u45::u46::u47::u48::u49::u50::u51::u52::u53::u54::u55::u56::u57::u58::u59::u60::u61::u62::u63::u64::u65::u66::u67::u68::u69::u70::u71::u72::u73::u74::u75::u76::u77::u78::u79::u80::([]:List Value)).toArray,defers:=[] } W5:=by
 obtain ⟨p0,p1,p2,p3,p4,p5,p6,p7,p8,p9,p10,p11⟩:=ht
 have hmx:Tryz.prog.follows .mixedOrders=true:=by kernel_rfl
 unfold Ao.val at hcall hQ
 have hsz1:(⟨#[102,111,114,101,105,103,110,32,107,101,121,32,40]⟩:ByteArray).size+ow.size≤maxLen:=(B0 (e:=⟨#[41]⟩) (by decide) how (by decide)).1
 have hsz2:((⟨#[102,111,114,101,105,103,110,32,107,101,121,32,40]⟩:ByteArray)++ow).size+(⟨#[41,32,114,101,102,101,114,101,110,99,101,115,32]⟩:ByteArray).size≤maxLen:=(B0 (by decide) how (by decide)).2
 have hsz3:((⟨#[102,111,114,101,105,103,110,32,107,101,121,32,40]⟩:ByteArray)++ow++⟨#[41,32,114,101,102,101,114,101,110,99,101,115,32]⟩).size+lk.size≤maxLen:=M5 (by decide) how (by decide) hlk
 gi_region_with_o (first
  | (refine ⟨trivial,fun h=>(by cases h),?_⟩;refine hcall.mono ?_;rintro e w2 ⟨rfl,hbel⟩;have c1':=(hbel.cell (p:=⟨b8,1,none⟩) hlt8).trans c1;obtain ⟨fn,tmps,assign,body,hy,hR⟩:=hgo w2 hbel;clear hcall)
  | (refine ⟨fun h=>(by cases h),?_⟩;refine hR.mono ?_;rintro e W6 ⟨bb,rfl,hp⟩;clear hy))
 all_goals exact hQ _ _ _ hbel hp
theorem Io {n:Nat} {c:Code} {Q:Exit→Act→World→Prop} {a:Act} {w:World} (h:c.wpIn Fence.wide n Tryz.prog (Exit.then (fun a w=>Q .normal a w) (fun _ _ _=>False)) a w):c.wpIn Fence.wide n Tryz.prog Q a w :=
 wpIn_mono h (fun e a w h=>by cases e<;>first|exact h|exact h.elim)
end SqlSeq
end Go.Proofs
namespace Go.Proofs
open Go.RowKit Go.Shelf
attribute [local go_sem] Oper.semAt_some
namespace SqlSeq
theorem I6 {n l:Nat} {args:Array Value} {W:World} {A B C:World→Prop} (h:YieldAt Fence.wide n Tryz.prog l args W fun e W'=>(e = .returned (.bool true)∧A W'∧B W')∨(e = .returned (.bool false)∧C W')) :
  YieldAt Fence.wide n Tryz.prog l args W fun e W'=>∃ bb,e = .returned (.bool bb)∧(bb=true→A W'∧B W')∧(bb=false→C W'):=by
 obtain ⟨fn,tmps,assign,body,hy,hR⟩:=h
 exact ⟨fn,tmps,assign,body,hy,hR.mono fun _ _ h=>Nl h⟩
set_option maxRecDepth 100000 in
set_option maxHeartbeats 16000000 in
theorem Ly (n:Nat) (hn:2≤n) (l B n₀ b1 o1 nc cap1:Nat) (t:Ao) (htc:t.cols = .slice (some ⟨b1,o1,none⟩) nc cap1)
  (b2 o2:Nat) (au:Option Addr) (nu cap2:Nat) (hun:t.uniq = .slice au nu cap2) (hau:0 < nu→au=some ⟨b2,o2,none⟩)
  (b3 o3:Nat) (al:Option Addr) (nl cap3:Nat) (hln:t.links = .slice al nl cap3) (hal:0 < nl→al=some ⟨b3,o3,none⟩)
  {α:Type} (L:α→ByteArray) (cv:Nat→C3) (uv:Nat→Int) (lv:Nat→Int × ByteArray) (fC fU fL:Nat→α) (fP fK:α) (hB:B < n₀) (hb1:b1 < n₀) (hb2:0 < nu→b2 < n₀) (hb3:0 < nl→b3 < n₀) (hnc:nc≤1000) (hnu:nu≤1000) (hnl:nl≤1000) (N:Nat) (W:World) (J Jx:List α→World→Prop)
  (hcol:∀ j W',j < nc→Below n₀ W W'→Calls Tryz.prog 62 #[Cd (cv j)] W' fun e W''=>e = .returned (.string (L (fC j)))∧Below W'.heap.size W' W'')
  (ow:Int→ByteArray) (how:∀ i,(ow i).size≤50000) (Oi:Int→Prop) (hown:∀ i W',Oi i→Below n₀ W W'→Calls Tryz.prog 63 #[t.val, .int .i64 i] W' fun e W''=>e = .returned (.string (ow i))∧Below W'.heap.size W' W'')
  (ok:Oi t.key) (ou:∀ j,j < nu→Oi (uv j)) (ol:∀ j,j < nl→Oi (lv j).1)
  (ek:ByteArray) (hek:ek.size≤50000) (hexp:t.ck≠0→∀ W',Below n₀ W W'→Calls Tryz.prog 26 #[t.ckV] W' fun e W''=>e = .returned (.string ek)∧Below W'.heap.size W' W'')
  (hfP:L fP=Dw++ow t.key++⟨#[41]⟩) (hfU:∀ j,j < nu→L (fU j)=D2++ow (uv j)++⟨#[41]⟩) (hfK:L fK=D1++ek++⟨#[41]⟩) (hfL:∀ j,j < nl→L (fL j)=Di++ow (lv j).1++Dc++(lv j).2) (hlv:∀ j,j < nl→(lv j).2.size≤100)
  (hY:∀ pre x W,J pre W→pre.length < N→YieldAt Fence.wide (n - 1) Tryz.prog l #[.string (L x)] W fun e W' =>
   (e = .returned (.bool true)∧J (pre++[x]) W'∧Below n₀ W W')∨(e = .returned (.bool false)∧Jx (pre++[x]) W'))
  (hJ:∀ pre A C,J pre A→Below A.heap.size A C→J pre C)
  (hn₀:n₀≤W.heap.size) (ht:t.at W B) (hcs:∀ j,j < nc→W.cell? ⟨b1,o1+j*3,none⟩=some (.string (cv j).1)∧W.cell? ⟨b1,o1+j*3+1,none⟩=some (.int .i64 (cv j).2.1)∧W.cell? ⟨b1,o1+j*3+2,none⟩=some (.bool (cv j).2.2))
  (hus:∀ j,j < nu→W.cell? ⟨b2,o2+j,none⟩=some (.int .i64 (uv j))) (hls:∀ j,j < nl→W.cell? ⟨b3,o3+j*2,none⟩=some (.int .i64 (lv j).1)∧W.cell? ⟨b3,o3+j*2+1,none⟩=some (.string (lv j).2))
  (hN:nc+nu+nl+2≤N) (h0:J [] W) (Q:Ending→World→Prop) (hQx:∀ v pre W',Jx pre W'→Q (.returned v) W') (hQ:∀ v W',J (upto fC nc++[fP]++upto fU nu++(if t.ck=0 then [] else [fK])++upto fL nl) W'→Q (.returned v) W') :
  CallsIn Fence.wide n Tryz.prog 61 #[.func (.yield l) #[] #[], .pointer (some ⟨B,0,none⟩)] W Q:=by
 refine callsIn_of_wp Tryz.func61 rfl trivial ?_ rfl
 simp only [Tryz.ntmps61,List.size_toArray,List.length_cons,List.length_nil,Nat.reduceAdd,Nat.reduceSub,Array.replicate_succ,Array.replicate_zero,List.push_toArray,List.append_toArray,List.nil_append,List.cons_append]
 have ht0:=ht
 obtain ⟨q0,q1,q2,q3,q4,q5,q6,q7,q8,q9,q10,q11⟩:=ht
 rw [htc] at q1
 gi_wp2
 gi_loopw [12] (fun i wr=>∃ k:Nat,k≤nc∧i = .int .i64 k∧J (upto fC k) wr∧Below n₀ W wr)
  (fun i _=>nc - (intOf i).toNat)
 case atStart=>exact ⟨0,Nat.zero_le _,rfl,h0,Below.refl _ _⟩
 case round =>
  obtain ⟨k,hk,rfl,hJs,hnx⟩:=hrel
  have hws:=hnx.size
  by_cases hlt:k < nc
  ·have hl:∀ o v,W.cell? ⟨b1,o,none⟩=some v→wr.cell? ⟨b1,o,none⟩=some v:=fun o v hv=>(hnx.cell (p:=⟨b1,o,none⟩) hb1).trans hv
   obtain ⟨g1,g2,g3⟩:=hcs k hlt
   have g1:=hl _ _ g1
   have g2:=hl _ _ g2
   have g3:=hl _ _ g3
   have hb0:=hnx.alloc (by omega) (.cells #[.string (cv k).1, .int .i64 (cv k).2.1, .bool (cv k).2.2] 101)
   have hcall:=(callsIn_wide (n:=n - 1)).2 (hcol k _ hlt hb0)
   unfold Cd at hcall
   gi_wp2
   refine ⟨trivial,fun h=>(by cases h),?_⟩
   refine hcall.mono ?_
   rintro e w1 ⟨rfl,hbel⟩
   have hJ1:=hJ _ _ _ (hJ _ wr _ hJs ((Below.refl _ wr).alloc (Nat.le_refl _) _)) hbel
   obtain ⟨fn,tmps,assign,body,hy,hR⟩:=hY _ (fC k) w1 hJ1 (by rw [upto_length];omega)
   gi_wp2
   refine ⟨fun h=>(by cases h),?_⟩
   refine hR.mono ?_
   rintro e W3 (⟨rfl,hJ3,hk3⟩|⟨rfl,hJx3⟩)
   ·gi_wp2
    go_roundw
    case rel=>exact ⟨k+1,by omega,by simp,by rw [upto_succ];exact hJ3,((hnx.alloc (by omega) _).trans (hbel.mono (by simp;omega))).trans hk3⟩
    case measure=>simp [intOf];omega
   ·gi_wp2
    refine bodyPost_ret (results_none rfl _ _ _) rfl ?_
    exact hQx _ _ _ hJx3
  ·obtain rfl:k=nc:=by omega
   obtain ⟨p0,p1,p2,p3,p4,p5,p6,p7,p8,p9,p10,p11⟩:=ht0.below hnx hB
   have hcall:=(callsIn_wide (n:=n - 1)).2 (hown _ wr ok hnx)
   unfold Ao.val at hcall
   have how1:=how t.key
   have hpk:(⟨#[112,114,105,109,97,114,121,32,107,101,121,32,40]⟩:ByteArray).size+(ow t.key).size≤maxLen:=(B0 (e:=⟨#[41]⟩) (by decide) (how _) (by decide)).1
   have hpk2:((⟨#[112,114,105,109,97,114,121,32,107,101,121,32,40]⟩:ByteArray)++ow t.key).size+(⟨#[41]⟩:ByteArray).size≤maxLen:=(B0 (by decide) (how _) (by decide)).2
   rw [htc,hun,hln] at hcall
   rw [htc] at p1
   rw [hun] at p3
   rw [hln] at p11
   gi_wp2
   refine ⟨trivial,fun h=>(by cases h),?_⟩
   refine hcall.mono ?_
   rintro e w1 ⟨rfl,hbel⟩
   have hJ1:=hJ _ _ _ hJs hbel
   obtain ⟨fn,tmps,assign,body,hy,hR⟩:=hY _ fP w1 hJ1 (by rw [upto_length];omega)
   rw [hfP] at hy
   unfold Dw at hy
   gi_wp2
   refine ⟨fun h=>(by cases h),?_⟩
   refine hR.mono ?_
   rintro e W3 (⟨rfl,hJ3,hk3⟩|⟨rfl,hJx3⟩)
   ·have hn3:Below n₀ W W3:=(hnx.trans (hbel.mono (by omega))).trans hk3
    clear hcall hy hR hJ1 hk3 hbel hJs hnx p0 p1 p2 p3 p4 p5 p6 p7 p8 p9 p10 p11 hpk hpk2 q0 q1 q2 q3 q4 q5 q6 q7 q8 q9 q10 q11
    obtain ⟨r0,r1,r2,r3,r4,r5,r6,r7,r8,r9,r10,r11⟩:=ht0.below hn3 hB
    rw [hun] at r3
    gi_wp2
    clear r0 r1 r2 r3 r4 r5 r6 r7 r8 r9 r10 r11
    gi_loopw [34] (fun i wr=>∃ k':Nat,k'≤nu∧i = .int .i64 k'∧J (upto fC k++[fP]++upto fU k') wr∧Below n₀ W wr)
     (fun i _=>nu - (intOf i).toNat)
    case atStart=>exact ⟨0,Nat.zero_le _,rfl,by simpa [upto] using hJ3,hn3⟩
    case round =>
     obtain ⟨k',hk',rfl,hJs,hnx⟩:=hrel
     have hws:=hnx.size
     obtain ⟨p0,p1,p2,p3,p4,p5,p6,p7,p8,p9,p10,p11⟩:=ht0.below hnx hB
     rw [htc] at p1
     rw [hun] at p3
     rw [hln] at p11
     by_cases hlt':k' < nu
     ·obtain rfl:=hau (by omega)
      have g1:=(hnx.cell (p:=⟨b2,o2+k',none⟩) (hb2 (by omega))).trans (hus k' hlt')
      have hcall:=(callsIn_wide (n:=n - 1)).2 (hown _ wr (ou k' hlt') hnx)
      unfold Ao.val at hcall
      rw [htc,hun,hln] at hcall
      have how1:=how (uv k')
      have hpk:(⟨#[117,110,105,113,117,101,32,40]⟩:ByteArray).size+(ow (uv k')).size≤maxLen:=(B0 (e:=⟨#[41]⟩) (by decide) (how _) (by decide)).1
      have hpk2:((⟨#[117,110,105,113,117,101,32,40]⟩:ByteArray)++ow (uv k')).size+(⟨#[41]⟩:ByteArray).size≤maxLen:=(B0 (by decide) (how _) (by decide)).2
      gi_wp2
      refine ⟨trivial,fun h=>(by cases h),?_⟩
      refine hcall.mono ?_
      rintro e w1 ⟨rfl,hbel⟩
      have hJ1:=hJ _ _ _ hJs hbel
      obtain ⟨fn,tmps,assign,body,hy,hR⟩:=hY _ (fU k') w1 hJ1 (by simp only [List.length_append,upto_length,List.length_cons,List.length_nil];omega)
      rw [hfU k' hlt'] at hy
      unfold D2 at hy
      gi_wp2
      refine ⟨fun h=>(by cases h),?_⟩
      refine hR.mono ?_
      rintro e W4 (⟨rfl,hJ4,hk4⟩|⟨rfl,hJx4⟩)
      ·gi_wp2
       go_roundw
       case rel=>exact ⟨k'+1,by omega,by simp,by rw [upto_succ,← List.append_assoc];exact hJ4,(hnx.trans (hbel.mono (by omega))).trans hk4⟩
       case measure=>simp [intOf];omega
      ·gi_wp2
       refine bodyPost_ret (results_none rfl _ _ _) rfl ?_
       exact hQx _ _ _ hJx4
     ·obtain rfl:k'=nu:=by omega
      by_cases hck:t.ck=0
      ·rw [hck] at p4
       gi_wp2
       refine ⟨trivial,?_⟩
       rename_i hKK
       refine hKK _ _ ?_
       clear hKK
       gi_wp2
       refine ⟨fun f h=>(by cases h),?_⟩
       rename_i hKK _ _ _ _
       refine hKK _ _ ?_
       clear hKK
       gi_wp2
       have hn4:=hnx
       clear p0 p1 p2 p3 p4 p5 p6 p7 p8 p9 p10 p11 hnx
       gi_loopw [64] (fun i wr=>∃ k3:Nat,k3≤nl∧i = .int .i64 k3∧J (upto fC k++[fP]++upto fU k'++[]++upto fL k3) wr∧Below n₀ W wr)
        (fun i _=>nl - (intOf i).toNat)
       case atStart=>exact ⟨0,Nat.zero_le _,rfl,by simpa [upto] using hJs,hn4⟩
       case round =>
        obtain ⟨k3,hk3,rfl,hJs3,hnx3⟩:=hrel
        have hws3:=hnx3.size
        by_cases hlt3:k3 < nl
        ·obtain rfl:=hal (by omega)
         obtain ⟨g1,g2⟩:=hls k3 hlt3
         have g1:=(hnx3.cell (p:=⟨b3,o3+k3*2,none⟩) (hb3 (by omega))).trans g1
         have g2:=(hnx3.cell (p:=⟨b3,o3+k3*2+1,none⟩) (hb3 (by omega))).trans g2
         have hlv1:=hlv k3 hlt3
         gi_wp2
         have hmx:Tryz.prog.follows .mixedOrders=true:=by kernel_rfl
         have hb5:=hnx3.alloc (by omega) (.cells #[.int .i64 (lv k3).1, .string (lv k3).2] 103)
         have hJ5:=hJ _ _ _ hJs3 ((Below.refl _ wr).alloc (Nat.le_refl _) (.cells #[.int .i64 (lv k3).1, .string (lv k3).2] 103))
         have hat:=ht0.below hb5 hB
         obtain ⟨c0,c1⟩:=Je wr (lv k3)
         have hlt8:wr.heap.size < (wr.alloc (.cells #[.int .i64 (lv k3).1, .string (lv k3).2] 103)).heap.size:=by simp
         obtain ⟨W5,hW5⟩:∃ W5,wr.alloc (.cells #[.int .i64 (lv k3).1, .string (lv k3).2] 103)=W5:=⟨_,rfl⟩
         rw [hW5] at hb5 hJ5 hat c0 c1 hlt8 ⊢
         have hcall:=(callsIn_wide (n:=n - 1)).2 (hown _ W5.drew (ol k3 hlt3) hb5.drew)
         have hgo:=fun w2 (hbel:Below W5.drew.heap.size W5.drew w2)=>hY _ (fL k3) w2 (hJ _ _ _ (hJ _ _ _ hJ5 ((Below.refl _ W5).drew)) hbel) (by simp only [List.length_append,upto_length,List.length_cons,List.length_nil];omega)
         rw [hfL k3 hlt3] at hgo
         unfold Di Dc at hgo
         have hgo2:=fun w2 hbel=>I6 (hgo w2 hbel)
         have hreg:=J6 n hn l B t (lv k3).1 (lv k3).2 (ow (lv k3).1) (how _) hlv1 wr.heap.size W5 hat c0 c1 hlt8 hcall _ hgo2
         unfold Ao.val at hreg
         rw [htc,hun,hln] at hreg
         refine Io ?_
         refine hreg _ _ _ _ _ _ _ _ _ _ _ _ _ _ _ _ _ _ _ _ _ _ _ _ _ _ _ _ _ _ _ _ _ _ _ _ _ _ _ _ _ _ _ _ _ _ _ _ _ _ _ _ _ _ _ _ _ _ _ _ _ _ _ _ _ _ _ _ _ _ _ _ _ _ _ _ _ _ _ ?_
         rintro bb w2 W6 hbel ⟨hp1,hp2⟩
         have hb6:=hb5.drew.trans (hbel.mono (Nat.le_trans hn₀ hb5.drew.size))
         clear hreg hgo hgo2 hcall
         cases bb
         ·have hJx6:=hp2 rfl
          gi_wp2
          refine bodyPost_ret (results_none rfl _ _ _) rfl ?_
          exact hQx _ _ _ hJx6
         ·obtain ⟨hJ6,hk6⟩:=hp1 rfl
          gi_wp2
          go_roundw
          case rel=>exact ⟨k3+1,by omega,by simp,by rw [upto_succ,← List.append_assoc];exact hJ6,hb6.trans hk6⟩
          case measure=>simp [intOf];omega
        ·obtain rfl:k3=nl:=by omega
         gi_wp2
         go_end0
         refine hQ _ _ ?_
         first|(rw [if_pos hck];exact hJs3)|(rw [if_neg hck];exact hJs3)
      ·have hcall:=(callsIn_wide (n:=n - 1)).2 (hexp hck wr hnx)
       unfold Ao.ckV at hcall
       have hpk:(⟨#[99,104,101,99,107,32,40]⟩:ByteArray).size+ek.size≤maxLen:=(B0 (e:=⟨#[41]⟩) (by decide) hek (by decide)).1
       have hpk2:((⟨#[99,104,101,99,107,32,40]⟩:ByteArray)++ek).size+(⟨#[41]⟩:ByteArray).size≤maxLen:=(B0 (by decide) hek (by decide)).2
       gi_wp2
       refine ⟨trivial,fun h=>(by cases h),?_⟩
       refine hcall.mono ?_
       rintro e w1 ⟨rfl,hbel⟩
       have hJ1:=hJ _ _ _ hJs hbel
       obtain ⟨fn,tmps,assign,body,hy,hR⟩:=hY _ fK w1 hJ1 (by simp only [List.length_append,upto_length,List.length_cons,List.length_nil];omega)
       rw [hfK] at hy
       unfold D1 at hy
       gi_wp2
       refine ⟨fun h=>(by cases h),?_⟩
       refine hR.mono ?_
       rintro e W4 (⟨rfl,hJ4,hk4⟩|⟨rfl,hJx4⟩)
       ·have hn4:Below n₀ W W4:=(hnx.trans (hbel.mono (by omega))).trans hk4
        clear hcall hy hR hJ1 hk4 hbel hJs hnx p0 p1 p2 p3 p4 p5 p6 p7 p8 p9 p10 p11 hpk hpk2
        obtain ⟨p0,p1,p2,p3,p4,p5,p6,p7,p8,p9,p10,p11⟩:=ht0.below hn4 hB
        rw [hln] at p11
        gi_wp2
        clear p0 p1 p2 p3 p4 p5 p6 p7 p8 p9 p10 p11
        gi_loopw [64] (fun i wr=>∃ k3:Nat,k3≤nl∧i = .int .i64 k3∧J (upto fC k++[fP]++upto fU k'++[fK]++upto fL k3) wr∧Below n₀ W wr)
         (fun i _=>nl - (intOf i).toNat)
        case atStart=>exact ⟨0,Nat.zero_le _,rfl,by simpa [upto] using hJ4,hn4⟩
        case round =>
         obtain ⟨k3,hk3,rfl,hJs3,hnx3⟩:=hrel
         have hws3:=hnx3.size
         by_cases hlt3:k3 < nl
         ·obtain rfl:=hal (by omega)
          obtain ⟨g1,g2⟩:=hls k3 hlt3
          have g1:=(hnx3.cell (p:=⟨b3,o3+k3*2,none⟩) (hb3 (by omega))).trans g1
          have g2:=(hnx3.cell (p:=⟨b3,o3+k3*2+1,none⟩) (hb3 (by omega))).trans g2
          have hlv1:=hlv k3 hlt3
          gi_wp2
          have hmx:Tryz.prog.follows .mixedOrders=true:=by kernel_rfl
          have hb5:=hnx3.alloc (by omega) (.cells #[.int .i64 (lv k3).1, .string (lv k3).2] 103)
          have hJ5:=hJ _ _ _ hJs3 ((Below.refl _ wr).alloc (Nat.le_refl _) (.cells #[.int .i64 (lv k3).1, .string (lv k3).2] 103))
          have hat:=ht0.below hb5 hB
          obtain ⟨c0,c1⟩:=Je wr (lv k3)
          have hlt8:wr.heap.size < (wr.alloc (.cells #[.int .i64 (lv k3).1, .string (lv k3).2] 103)).heap.size:=by simp
          obtain ⟨W5,hW5⟩:∃ W5,wr.alloc (.cells #[.int .i64 (lv k3).1, .string (lv k3).2] 103)=W5:=⟨_,rfl⟩
          rw [hW5] at hb5 hJ5 hat c0 c1 hlt8 ⊢
          have hcall:=(callsIn_wide (n:=n - 1)).2 (hown _ W5.drew (ol k3 hlt3) hb5.drew)
          have hgo:=fun w2 (hbel:Below W5.drew.heap.size W5.drew w2)=>hY _ (fL k3) w2 (hJ _ _ _ (hJ _ _ _ hJ5 ((Below.refl _ W5).drew)) hbel) (by simp only [List.length_append,upto_length,List.length_cons,List.length_nil];omega)
          rw [hfL k3 hlt3] at hgo
          unfold Di Dc at hgo
          have hgo2:=fun w2 hbel=>I6 (hgo w2 hbel)
          have hreg:=J6 n hn l B t (lv k3).1 (lv k3).2 (ow (lv k3).1) (how _) hlv1 wr.heap.size W5 hat c0 c1 hlt8 hcall _ hgo2
          unfold Ao.val at hreg
          rw [htc,hun,hln] at hreg
          refine Io ?_
          refine hreg _ _ _ _ _ _ _ _ _ _ _ _ _ _ _ _ _ _ _ _ _ _ _ _ _ _ _ _ _ _ _ _ _ _ _ _ _ _ _ _ _ _ _ _ _ _ _ _ _ _ _ _ _ _ _ _ _ _ _ _ _ _ _ _ _ _ _ _ _ _ _ _ _ _ _ _ _ _ _ ?_
          rintro bb w2 W6 hbel ⟨hp1,hp2⟩
          have hb6:=hb5.drew.trans (hbel.mono (Nat.le_trans hn₀ hb5.drew.size))
          clear hreg hgo hgo2 hcall
          cases bb
          ·have hJx6:=hp2 rfl
           gi_wp2
           refine bodyPost_ret (results_none rfl _ _ _) rfl ?_
           exact hQx _ _ _ hJx6
          ·obtain ⟨hJ6,hk6⟩:=hp1 rfl
           gi_wp2
           go_roundw
           case rel=>exact ⟨k3+1,by omega,by simp,by rw [upto_succ,← List.append_assoc];exact hJ6,hb6.trans hk6⟩
           case measure=>simp [intOf];omega
         ·obtain rfl:k3=nl:=by omega
          gi_wp2
          go_end0
          refine hQ _ _ ?_
          first|(rw [if_pos hck];exact hJs3)|(rw [if_neg hck];exact hJs3)
       ·gi_wp2
        refine bodyPost_ret (results_none rfl _ _ _) rfl ?_
        exact hQx _ _ _ hJx4
   ·gi_wp2
    refine bodyPost_ret (results_none rfl _ _ _) rfl ?_
    exact hQx _ _ _ hJx3
end SqlSeq
end Go.Proofs
namespace Go.Proofs.YtdlkibeljkapeaaGreatDoor.Den
open Go Go.RowKit
def U7 (t:Nat) (nn:Bool):List Fact:=[sA (.atom 0) (.str [32]) (.atom 1),sA (.atom 1) (.str (kw (A0.getD t ""))) (.atom 2)]++(match nn with|true=>[sA (.atom 2) (.str (kw " not null")) (.atom 3)]|false=>[])
theorem P4:((List.range 5).all fun t=>bl fun nn=>okR (.atom (if nn then 3 else 2)) (callF PG (fOrc noOwn (U7 t nn)) 20 Ij [.agg [.atom 0,nI (t+1:Nat), .bool nn]] []))=true:=by kernel_rfl
def Eh (nn:Bool):List UInt8:=match nn with|true=>kw " not null" | false=>[]
def cT (nm:List UInt8) (t:Nat) (nn:Bool):List UInt8:=nm++([32]++(kw (A0.getD t "")++Eh nn))
theorem Nc {nm:List UInt8} (hn:nm.length≤50000) {t:Nat} (ht:t < 5) (nn:Bool):Ev PG Ij [.agg [.str nm,nI (t+1:Nat), .bool nn]] (.str (cT nm t nn)):=by
 have hk:=bl_all (List.all_eq_true.1 P4 t (by rw [List.mem_range];exact ht)) nn
 have hw:=Jt t ht
 have h9:(kw " not null").length=9:=by decide
 have hnu:NuOk (nuL [.str nm, .str (nm++[32]), .str (nm++[32]++kw (A0.getD t "")), .str (nm++[32]++kw (A0.getD t "")++kw " not null")]):=nuL_okB rfl
 have hf0:FactsOk PG (nuL [.str nm, .str (nm++[32]), .str (nm++[32]++kw (A0.getD t "")), .str (nm++[32]++kw (A0.getD t "")++kw " not null")]) [sA (.atom 0) (.str [32]) (.atom 1),sA (.atom 1) (.str (kw (A0.getD t ""))) (.atom 2)] :=
  ⟨Ac (l:=nm) (m:=[32]) rfl rfl (by simp only [List.length_cons,List.length_nil];omega) rfl rfl,Ac (l:=nm++[32]) (m:=kw (A0.getD t "")) rfl rfl (by simp only [List.length_append,List.length_cons,List.length_nil];omega) rfl rfl,trivial⟩
 cases nn with
 | true =>
  have:=Ev.facts prog_ok hnu (okR_eq hk) (FactsOk.append hf0 ⟨Ac (l:=nm++[32]++kw (A0.getD t "")) (m:=kw " not null") rfl rfl (by simp only [List.length_append,List.length_cons,List.length_nil];omega) rfl rfl,trivial⟩) rfl rfl
  have e:nm++[32]++kw (A0.getD t "")++kw " not null" = cT nm t true:=by simp [cT,Eh]
  rw [← e]
  exact this
 | false =>
  have:=Ev.facts prog_ok hnu (okR_eq hk) (FactsOk.append hf0 trivial) rfl rfl
  have e:nm++[32]++kw (A0.getD t "")=cT nm t false:=by simp [cT,Eh]
  rw [← e]
  exact this
def Up:List Fact:=[oI .lss (.atom 24) (nI 0) (.bool false), .op (.len ty_sl_api_Col) [.atom 1] (.atom 25),oI .geq (.atom 24) (.atom 25) (.bool false), .op (.ix ty_sl_api_Col) [.atom 1, .atom 24] (.ref [.atom 33, .atom 35, .atom 36])]
theorem Q5:okR (.atom 33) (callF PG (fOrc noOwn Up) 20 Gq [.agg Bd, .atom 24] [])=true:=by kernel_rfl
abbrev GC:=List UInt8 × Nat × Bool
def Ci (c:GC):PV:=.agg [.str c.1,nI (c.2.1+1:Nat), .bool c.2.2]
def Ar (cs:List GC):PV:=.slice 3 (cs.map Ci)
theorem G0 (cs:List GC):PV.pureL (cs.map Ci)=true:=by
 induction cs with
 | nil=>rfl
 | cons c cs ih=>exact ih
theorem Ou (cs:List GC):lenP PG ty_sl_api_Col (Ar cs)=some (nI cs.length):=by
 have hu:PG.underlying ty_sl_api_Col=some (.slice ty_api_Col):=by kernel_rfl
 unfold lenP Ar
 rw [hu]
 show some (nI ((List.map Ci cs).length:Nat))=_
 simp
theorem Px {cs:List GC} {i:Nat} {c:GC} (hi:cs[i]? = some c):indexAddrP PG ty_sl_api_Col (Ar cs) (nI i)=some (.ref [.str c.1,nI (c.2.1+1:Nat), .bool c.2.2]):=by
 have hu:PG.underlying ty_sl_api_Col=some (.slice ty_api_Col):=by kernel_rfl
 have hs:sizeP PG ty_api_Col=some 3:=by kernel_rfl
 unfold indexAddrP Ar
 rw [hu]
 have:(cs.map Ci)[((i:Nat):Int).toNat]? = some (Ci c):=by simp [hi]
 simp only [hs,true_and]
 rw [if_pos (by omega),this]
 rfl
set_option maxRecDepth 40000 in
theorem O2 {nm:List UInt8} {cs:List GC} {key:Int} {uq k0 k1 k2 k3 k4 k5 k6 lk:PV} (hg:([uq,k0,k1,k2,k3,k4,k5,k6,lk].all fun p=>p.clean&&p.pure)=true) {i:Nat} {c:GC} (hi:cs[i]? = some c) :
  Ev PG Gq [.agg [.str nm,Ar cs,nI key,uq,k0,k1,k2,k3,k4,k5,k6,lk],nI i] (.str c.1):=by
 have hil:i < cs.length:=by
  rcases Nat.lt_or_ge i cs.length with h|h
  ·exact h
  ·rw [List.getElem?_eq_none h] at hi;cases hi
 have hnu:NuOk (nuL ([.str nm,Ar cs,nI key,uq,k0,k1,k2,k3,k4,k5,k6,lk]++[nI 0,nI 0,nI 0,nI 0,nI 0,nI 0,nI 0,nI 0,nI 0,nI 0,nI 0,nI 0,nI i,nI cs.length,nI 0,nI 0,nI 0,nI 0,nI 0,nI 0,nI 0, .str c.1,nI 0,nI (c.2.1+1:Nat), .bool c.2.2])):=by
  refine nuL_okB ?_
  simp only [List.all_cons,List.all_nil,Bool.and_eq_true,Bool.and_true] at hg
  simp only [List.cons_append,List.nil_append,List.all_cons,List.all_nil,hg,Bool.and_self,Bool.and_true,Bool.true_and]
  rw [show (Ar cs).clean=true from rfl,show (Ar cs).pure=true from G0 cs]
  rfl
 exact Ev.facts (args:=[.agg Bd, .atom 24]) (r:=.atom 33) prog_ok hnu (okR_eq Q5)
  ⟨fCmp (a:=i) (b:=0) (c:=false) rfl rfl rfl (by simp only [intP];rw [decide_eq_false (by omega)]) (by decide) rfl,⟨Ou cs,rfl⟩,fCmp (a:=i) (b:=cs.length) (c:=false) rfl rfl rfl (by simp only [intP];rw [decide_eq_false (by omega)]) (by decide) rfl,⟨Px hi,rfl⟩,trivial⟩ (by
   have hA:PV.pureL [.str nm,Ar cs,nI key,uq,k0,k1,k2,k3,k4,k5,k6,lk]=true:=by
    simp only [List.all_cons,List.all_nil,Bool.and_eq_true,Bool.and_true] at hg
    simp only [PV.pureL,hg,Bool.and_true]
    rw [show (Ar cs).pure=true from G0 cs]
    rfl
   have hB:argB (nuL ([.str nm,Ar cs,nI key,uq,k0,k1,k2,k3,k4,k5,k6,lk]++[nI 0,nI 0,nI 0,nI 0,nI 0,nI 0,nI 0,nI 0,nI 0,nI 0,nI 0,nI 0,nI i,nI cs.length,nI 0,nI 0,nI 0,nI 0,nI 0,nI 0,nI 0, .str c.1,nI 0,nI (c.2.1+1:Nat), .bool c.2.2])) (.agg Bd)=true:=by
    unfold argB
    rw [show subD (nuL ([.str nm,Ar cs,nI key,uq,k0,k1,k2,k3,k4,k5,k6,lk]++[nI 0,nI 0,nI 0,nI 0,nI 0,nI 0,nI 0,nI 0,nI 0,nI 0,nI 0,nI 0,nI i,nI cs.length,nI 0,nI 0,nI 0,nI 0,nI 0,nI 0,nI 0, .str c.1,nI 0,nI (c.2.1+1:Nat), .bool c.2.2])) (.agg Bd) = .agg [.str nm,Ar cs,nI key,uq,k0,k1,k2,k3,k4,k5,k6,lk] from rfl]
    show (PV.pureL _&&_)=true
    rw [hA]
    rfl
   show ((argB _ (.agg Bd)&&PV.shut (.agg Bd))&&_)=true
   rw [hB]
   rfl) rfl
end Go.Proofs.YtdlkibeljkapeaaGreatDoor.Den
namespace Go.Proofs
open Go.RowKit Go.Shelf
namespace SqlSeq
theorem Ao.at.grow {t:Ao} {B:Nat} {A C:World} (hb:Below A.heap.size A C) (hB:B < A.heap.size) (h:t.at A B):t.at C B:=h.below hb hB
theorem Gj (n:Nat) (hn:2≤n) (B n₀ b1 o1 nc cap1:Nat) (t:Ao) (htc:t.cols = .slice (some ⟨b1,o1,none⟩) nc cap1)
  (b2 o2:Nat) (au:Option Addr) (nu cap2:Nat) (hun:t.uniq = .slice au nu cap2) (hau:0 < nu→au=some ⟨b2,o2,none⟩)
  (b3 o3:Nat) (al:Option Addr) (nl cap3:Nat) (hln:t.links = .slice al nl cap3) (hal:0 < nl→al=some ⟨b3,o3,none⟩)
  {α:Type} (L:α→ByteArray) (cv:Nat→C3) (uv:Nat→Int) (lv:Nat→Int × ByteArray) (fC fU fL:Nat→α) (fP fK:α) (hB:B < n₀) (hb1:b1 < n₀) (hb2:0 < nu→b2 < n₀) (hb3:0 < nl→b3 < n₀) (hnc:nc≤1000) (hnu:nu≤1000) (hnl:nl≤1000) (N:Nat) (w:World)
  (hcol:∀ j W',j < nc→Below n₀ w W'→Calls Tryz.prog 62 #[Cd (cv j)] W' fun e W''=>e = .returned (.string (L (fC j)))∧Below W'.heap.size W' W'')
  (ow:Int→ByteArray) (how:∀ i,(ow i).size≤50000) (Oi:Int→Prop) (hown:∀ i W',Oi i→Below n₀ w W'→Calls Tryz.prog 63 #[t.val, .int .i64 i] W' fun e W''=>e = .returned (.string (ow i))∧Below W'.heap.size W' W'')
  (ok:Oi t.key) (ou:∀ j,j < nu→Oi (uv j)) (ol:∀ j,j < nl→Oi (lv j).1)
  (ek:ByteArray) (hek:ek.size≤50000) (hexp:t.ck≠0→∀ W',Below n₀ w W'→Calls Tryz.prog 26 #[t.ckV] W' fun e W''=>e = .returned (.string ek)∧Below W'.heap.size W' W'')
  (hfP:L fP=Dw++ow t.key++⟨#[41]⟩) (hfU:∀ j,j < nu→L (fU j)=D2++ow (uv j)++⟨#[41]⟩) (hfK:L fK=D1++ek++⟨#[41]⟩) (hfL:∀ j,j < nl→L (fL j)=Di++ow (lv j).1++Dc++(lv j).2) (hlv:∀ j,j < nl→(lv j).2.size≤100)
  (hn₀:n₀≤w.heap.size) (ht:t.at w B) (hcs:∀ j,j < nc→w.cell? ⟨b1,o1+j*3,none⟩=some (.string (cv j).1)∧w.cell? ⟨b1,o1+j*3+1,none⟩=some (.int .i64 (cv j).2.1)∧w.cell? ⟨b1,o1+j*3+2,none⟩=some (.bool (cv j).2.2))
  (hus:∀ j,j < nu→w.cell? ⟨b2,o2+j,none⟩=some (.int .i64 (uv j))) (hls:∀ j,j < nl→w.cell? ⟨b3,o3+j*2,none⟩=some (.int .i64 (lv j).1)∧w.cell? ⟨b3,o3+j*2+1,none⟩=some (.string (lv j).2))
  (hN:nc+nu+nl+2≤N) :
  SeqStopsK Fence.wide n Tryz.prog 61 #[.pointer (some ⟨B,0,none⟩)] (fun x:α=>#[.string (L x)]) (Below n₀) (fun ys=>ys=upto fC nc++[fP]++upto fU nu++(if t.ck=0 then [] else [fK])++upto fL nl) (fun _=>True) N w:=fun l J Jx W hW hJ _ hY h0 =>
 have hw:Below n₀ w W:=hW.mono hn₀
 have hc:∀ (b o:Nat) (v:Value),b < w.heap.size→w.cell? ⟨b,o,none⟩=some v→W.cell? ⟨b,o,none⟩=some v:=fun b o _ hb hv=>(hW.cell (p:=⟨b,o,none⟩) hb).trans hv
 Ly n hn l B n₀ b1 o1 nc cap1 t htc b2 o2 au nu cap2 hun hau b3 o3 al nl cap3 hln hal L cv uv lv fC fU fL fP fK hB hb1 hb2 hb3 hnc hnu hnl N W J Jx
  (fun j W' hj hb=>hcol j W' hj (hw.trans hb)) ow how Oi (fun i W' hi hb=>hown i W' hi (hw.trans hb)) ok ou ol ek hek (fun h W' hb=>hexp h W' (hw.trans hb)) hfP hfU hfK hfL hlv hY
  (fun pre A C h hb=>hJ pre A C none h (below_grown hb) (fun r e=>by cases e)) (Nat.le_trans hn₀ hW.size) (ht.below hW (by omega))
  (fun j hj=>⟨hc _ _ _ (by omega) (hcs j hj).1,hc _ _ _ (by omega) (hcs j hj).2.1,hc _ _ _ (by omega) (hcs j hj).2.2⟩)
  (fun j hj=>hc _ _ _ (by have:=hb2 (by omega);omega) (hus j hj)) (fun j hj=>⟨hc _ _ _ (by have:=hb3 (by omega);omega) (hls j hj).1,hc _ _ _ (by have:=hb3 (by omega);omega) (hls j hj).2⟩)
  hN h0 _ (fun v pre _ h=>⟨⟨v,rfl⟩, .inr ⟨pre,trivial,h⟩⟩) (fun v _ h=>⟨⟨v,rfl⟩, .inl ⟨_,rfl,h⟩⟩)
end SqlSeq
end Go.Proofs
namespace Go.Proofs.YtdlkibeljkapeaaGreatDoor.Den
open Go Go.RowKit
open Go.Proofs.SqlSeq (upto joinS)
theorem Gt {α β:Type} (n:Nat) (hn:0 < n) (f:α→List β):∀ (l:List α),(∀ a∈l,(f a).length=n)→∀ j i,i < n→(l.flatMap f)[j*n+i]? = (l[j]?).bind fun a=>(f a)[i]?
 | [],_,j,i,_=>by simp
 | a::l,h,j,i,hi=>by
  have ha:=h a (by simp)
  rw [List.flatMap_cons]
  cases j with
  | zero=>rw [List.getElem?_append_left (by omega)];simp
  | succ j =>
   have e:(j+1)*n=j*n+n:=Nat.succ_mul j n
   rw [List.getElem?_append_right (by omega),ha,show (j+1)*n+i - n=j*n+i by omega,Gt n hn f l (fun b hb=>h b (by simp [hb])) j i hi]
   simp
theorem Gl {X:Map} {w:World} (hok:X.Ok w) {sz:Nat} {xs:List PV} {v:Value} (h:R X (.slice sz xs) v) :
  ∃ b o cap,v = .slice (some ⟨b,o,none⟩) xs.length cap∧∀ j a,xs[j]? = some a→∀ i c,i < sz→a.cellsD[i]? = some c→∃ u,w.cell? ⟨b,o+(j*sz+i),none⟩=some u∧R X c u:=by
 cases h with
 | slice _ _ b o cap u k1 k2 k3 k4 k5 k6 =>
  refine ⟨b,o,cap,rfl,fun j a ha i c hi hc=>⟨u (j*sz+i),?_,?_⟩⟩
  ·exact hok.1 b _ _ (k4 _ _ (by rw [Gt sz k2 PV.cellsD xs k1 j i hi,ha];exact hc))
  ·exact k5 _ _ (by rw [Gt sz k2 PV.cellsD xs k1 j i hi,ha];exact hc)
end Go.Proofs.YtdlkibeljkapeaaGreatDoor.Den
namespace Go.Proofs.YtdlkibeljkapeaaGreatDoor.Den
open Go Go.RowKit
open Go.Proofs.SqlSeq (upto joinS Ao Cd Gj G8 Dw D2 D1 Di Dc)
structure Tg where
 nm:List UInt8
 cols:List GC
 key:Nat
 uq:List Nat
 kk:Int
 ck:E7
 ct:List UInt8
 lk:List (Nat × List UInt8)
def Fq:List Nat→PV
 | []=>.nilslice
 | l=>.slice 1 (l.map fun (i:Nat)=>nI i)
def F2:List (Nat × List UInt8)→PV
 | []=>.nilslice
 | l=>.slice 2 (l.map fun x=>.agg [nI x.1, .str x.2])
namespace Tg
variable (T:Tg)
def cells:List PV:=[.str T.nm,Ar T.cols,nI T.key,Fq T.uq,T.ck.k,T.ck.nm,T.ck.v0,T.ck.v1,T.ck.v2,T.ck.v3,T.ck.l,F2 T.lk]
def cn (i:Nat):List UInt8:=(T.cols.getD i ([],0,false)).1
def pkT:List UInt8:=kw "primary key (" ++ T.cn T.key++[41]
def uT (i:Nat):List UInt8:=kw "unique (" ++ T.cn i++[41]
def kT:List UInt8:=kw "check (" ++ T.ct++[41]
def lT (x:Nat × List UInt8):List UInt8:=kw "foreign key (" ++ T.cn x.1++kw ") references " ++ x.2
def items:List (List UInt8):=(T.cols.map fun c=>cT c.1 c.2.1 c.2.2)++[T.pkT]++T.uq.map T.uT++(if T.kk=0 then [] else [T.kT])++T.lk.map T.lT
structure Ok:Prop where
 ne:T.cols≠[]
 tot:T.cols.length+T.uq.length+T.lk.length≤900
 c1:∀ c∈T.cols,c.1.length≤100∧c.2.1 < 5
 key:T.key < T.cols.length
 uq:∀ i∈T.uq,i < T.cols.length
 lk:∀ x∈T.lk,x.1 < T.cols.length∧x.2.length≤100
 k:T.ck.k=nI T.kk
 ck:T.ck.ok=true
 ce:T.kk≠0→Ev PG A1 [T.ck.pv] (.str T.ct)
 cl:T.ct.length≤50000
end Tg
theorem I7:∀ l,((Fq l).clean&&(Fq l).pure)=true
 | []=>rfl
 | i::l=>by
  show (true&&PV.pureL ((i::l).map fun (i:Nat)=>nI i))=true
  have:∀ m:List Nat,PV.pureL (m.map fun (i:Nat)=>nI i)=true:=fun m=>by
   induction m with
   | nil=>rfl
   | cons a m ih=>exact ih
  rw [this];rfl
theorem Ja:∀ l,((F2 l).clean&&(F2 l).pure)=true
 | []=>rfl
 | i::l=>by
  show (true&&PV.pureL ((i::l).map fun x=>.agg [nI x.1, .str x.2]))=true
  have:∀ m:List (Nat × List UInt8),PV.pureL (m.map fun x=>.agg [nI x.1, .str x.2])=true:=fun m=>by
   induction m with
   | nil=>rfl
   | cons a m ih=>exact ih
  rw [this];rfl
theorem Tg.own {T:Tg} (h:T.Ok) {i:Nat} (hi:i < T.cols.length):Ev PG Gq [.agg T.cells,nI i] (.str (T.cn i)):=by
 have hc:T.cols[i]? = some T.cols[i]:=List.getElem?_eq_getElem hi
 have e:T.cn i=T.cols[i].1:=by unfold Tg.cn;rw [List.getD,hc];rfl
 rw [e]
 have hk:=h.ck
 simp only [E7.ok,E7.L,List.all_cons,List.all_nil,Bool.and_true] at hk
 refine O2 (nm:=T.nm) (key:=T.key) ?_ hc
 simp only [List.all_cons,List.all_nil,I7,Ja,Bool.and_true,Bool.true_and]
 exact hk
theorem Tg.cn_len {T:Tg} (h:T.Ok) (i:Nat):(T.cn i).length≤100:=by
 unfold Tg.cn
 by_cases hi:i < T.cols.length
 ·rw [List.getD,List.getElem?_eq_getElem hi];exact (h.c1 _ (List.getElem_mem hi)).1
 ·rw [List.getD,List.getElem?_eq_none (by omega)];simp
theorem Gw {g:FuncId} {args:List PV} {t:List UInt8} (h:Ev PG g args (.str t)) {X:Map} {w:World} (hX:X.Ok w) {vs:Array Value} (h1:vs.size=args.length) (h2:∀ (j:Nat) p,args[j]? = some p→R X p (vs.getD j Go.undef)) :
  Calls PG g vs w fun e w'=>e = .returned (.string ⟨t.toArray⟩)∧Below w.heap.size w w':=by
 refine (h.2 X w vs h1 h2 hX).mono ?_
 rintro e w' ⟨u,X',rfl,hr,hp⟩
 rw [hr.str_inv]
 exact ⟨rfl,I2 hp⟩
theorem Bv (a b:List UInt8):(⟨(a++b).toArray⟩:ByteArray)=⟨a.toArray⟩++⟨b.toArray⟩:=by
 apply ByteArray.ext
 rw [ByteArray.data_append]
 simp
end Go.Proofs.YtdlkibeljkapeaaGreatDoor.Den
namespace Go.Proofs.YtdlkibeljkapeaaGreatDoor.Den
open Go Go.RowKit
open Go.Proofs.SqlSeq (upto joinS Ao Cd Gj G8 Dw D2 D1 Di Dc)
abbrev BA:={s:ByteArray // s.size≤60000}
def Am (l:List UInt8):BA:=if h:l.length≤60000 then ⟨⟨l.toArray⟩,h⟩ else ⟨⟨#[]⟩,by decide⟩
theorem Bj {l:List UInt8} (h:l.length≤60000):(Am l).1=⟨l.toArray⟩:=by unfold Am;rw [dif_pos h]
theorem J0 {nm:List UInt8} (hn:nm.length≤100) {t:Nat} (ht:t < 5) (nn:Bool):(cT nm t nn).length≤60000:=by
 have hw:=Jt t ht
 have h9:(kw " not null").length=9:=by decide
 unfold cT
 cases nn with
 | true=>simp only [List.length_append,List.length_cons,List.length_nil,Eh,h9];omega
 | false=>simp only [List.length_append,List.length_cons,List.length_nil,Eh];omega
theorem Rl:(kw "primary key (").length=13:=by decide
theorem Ui:(kw "unique (").length=8:=by decide
theorem Ua:(kw "check (").length=7:=by decide
theorem Kp:(kw "foreign key (").length=13:=by decide
theorem Ks:(kw ") references ").length=13:=by decide
theorem S4:(⟨(kw "primary key (").toArray⟩:ByteArray)=Dw:=by decide
theorem Ru:(⟨(kw "unique (").toArray⟩:ByteArray)=D2:=by decide
theorem Su:(⟨(kw "check (").toArray⟩:ByteArray)=D1:=by decide
theorem Sz:(⟨(kw "foreign key (").toArray⟩:ByteArray)=Di:=by decide
theorem Rq:(⟨(kw ") references ").toArray⟩:ByteArray)=Dc:=by decide
theorem Gx {α β:Type} (f:α→β) (d:α) (l:List α):upto (fun j=>f (l.getD j d)) l.length=l.map f:=by
 refine List.ext_getElem (by simp [upto]) fun i h1 h2=>?_
 have hi:i < l.length:=by simpa [upto] using h1
 simp [upto,hi]
theorem G2 {α β:Type} (f:α→β) (d:α) {l:List α} {j:Nat} (hj:j < l.length):(l.map f)[j]? = some (f (l.getD j d)):=by
 rw [List.getElem?_map,List.getElem?_eq_getElem hj,List.getD,List.getElem?_eq_getElem hj]
 rfl
theorem Nx {X:Map} {w:World} (hok:X.Ok w) {l:List Nat} {v:Value} (h:R X (Fq l) v):∃ au n c b o,v = .slice au n c∧n=l.length∧(0 < n→au=some ⟨b,o,none⟩)∧∀ j,j < l.length→w.cell? ⟨b,o+j,none⟩=some (.int .i64 (l.getD j 0:Nat)):=by
 cases l with
 | nil=>cases h;exact ⟨none,0,0,0,0,rfl,rfl,fun h=>absurd h (by omega),fun j hj=>absurd hj (by simp)⟩
 | cons a l =>
  obtain ⟨b,o,cap,rfl,hc⟩:=Gl hok h
  refine ⟨_,_,cap,b,o,rfl,by simp,fun _=>rfl,fun j hj=>?_⟩
  obtain ⟨u,h1,h2⟩:=hc j (nI ((a::l).getD j 0:Nat)) (G2 (fun (i:Nat)=>nI i) 0 hj) 0 _ (by omega) rfl
  rw [show j*1+0=j by omega] at h1
  rw [h2.int_inv] at h1
  exact h1
theorem Ny {X:Map} {w:World} (hok:X.Ok w) {l:List (Nat × List UInt8)} {v:Value} (h:R X (F2 l) v):∃ au n c b o,v = .slice au n c∧n=l.length∧(0 < n→au=some ⟨b,o,none⟩)∧∀ j,j < l.length→w.cell? ⟨b,o+j*2,none⟩=some (.int .i64 ((l.getD j (0,[])).1:Nat))∧w.cell? ⟨b,o+j*2+1,none⟩=some (.string ⟨(l.getD j (0,[])).2.toArray⟩):=by
 cases l with
 | nil=>cases h;exact ⟨none,0,0,0,0,rfl,rfl,fun h=>absurd h (by omega),fun j hj=>absurd hj (by simp)⟩
 | cons a l =>
  obtain ⟨b,o,cap,rfl,hc⟩:=Gl hok h
  refine ⟨_,_,cap,b,o,rfl,by simp,fun _=>rfl,fun j hj=>?_⟩
  have hj':((a::l).map fun (x:Nat × List UInt8)=>PV.agg [nI x.1, .str x.2])[j]? = some (.agg [nI ((a::l).getD j (0,[])).1, .str ((a::l).getD j (0,[])).2]):=G2 (fun (x:Nat × List UInt8)=>PV.agg [nI x.1, .str x.2]) (0,[]) hj
  obtain ⟨u,h1,h2⟩:=hc j _ hj' 0 _ (by omega) rfl
  obtain ⟨u',h1',h2'⟩:=hc j _ hj' 1 _ (by omega) rfl
  rw [show o+(j*2+0)=o+j*2 by omega] at h1
  rw [show o+(j*2+1)=o+j*2+1 by omega] at h1'
  rw [h2.int_inv] at h1
  rw [h2'.str_inv] at h1'
  exact ⟨h1,h1'⟩
theorem M4 {X:Map} {w:World} (hok:X.Ok w) {l:List GC} {v:Value} (h:R X (Ar l) v):∃ c b o,v = .slice (some ⟨b,o,none⟩) l.length c∧∀ j,j < l.length→w.cell? ⟨b,o+j*3,none⟩=some (.string ⟨(l.getD j ([],0,false)).1.toArray⟩)∧w.cell? ⟨b,o+j*3+1,none⟩=some (.int .i64 ((l.getD j ([],0,false)).2.1+1:Nat))∧w.cell? ⟨b,o+j*3+2,none⟩=some (.bool (l.getD j ([],0,false)).2.2):=by
 obtain ⟨b,o,cap,rfl,hc⟩:=Gl hok h
 refine ⟨cap,b,o,by simp,fun j hj=>?_⟩
 have hj':(l.map Ci)[j]? = some (Ci (l.getD j ([],0,false))):=G2 Ci ([],0,false) hj
 obtain ⟨u,h1,h2⟩:=hc j _ hj' 0 _ (by omega) rfl
 obtain ⟨u',h1',h2'⟩:=hc j _ hj' 1 _ (by omega) rfl
 obtain ⟨u'',h1'',h2''⟩:=hc j _ hj' 2 _ (by omega) rfl
 rw [show o+(j*3+0)=o+j*3 by omega] at h1
 rw [show o+(j*3+1)=o+j*3+1 by omega] at h1'
 rw [show o+(j*3+2)=o+j*3+2 by omega] at h1''
 rw [h2.str_inv] at h1
 rw [h2'.int_inv] at h1'
 rw [h2''.bool_inv] at h1''
 exact ⟨h1,h1',h1''⟩
theorem Nw {w:World} {b:Nat} {l:List Value} {e:TypeId} {fr:Nat × Nat} (h:w.heap[b]? = some (.cells l.toArray e fr)) (j:Nat) (v:Value) (hj:l[j]? = some v):w.cell? ⟨b,j,none⟩=some v:=by
 unfold World.cell?
 rw [h]
 simp [hj]
theorem N5 {T:Tg} (h:T.Ok):EvS PG Ia [.agg [.fn Ik [] []], .fn Ib [] [.box 0 0]] [.box T.cells] (.str (joinL T.items)) [.box T.cells]:=by
 refine EvS.ofCalls (fn_of _ (by kernel_rfl)) fun X w us a1 a2 a3=>?_
 obtain ⟨u1,u2,rfl,r1,r2⟩:=vs_two a1 a2
 obtain ⟨bx,cs,e,hmb,hheap,hsz,_,hR,hone,_⟩:=a3.res 0
 have e1:u1 = .agg #[.func (.func 34) #[] #[]]:=by
  cases r1 with
  | agg _ us hs hj _ =>
   obtain ⟨l⟩:=us
   match l,hs with
   | [q],_ =>
    have:=hj 0 _ rfl
    cases this with
    | fn _ _ _ fs ks h1 h2 _ _ =>
     obtain ⟨fl⟩:=fs
     obtain ⟨kl⟩:=ks
     match fl,kl,h1,h2 with
     | [],[],_,_=>rfl
 have e2:u2 = .func (.func 61) #[] #[.pointer (some ⟨bx,0,none⟩)]:=by
  cases r2 with
  | fn _ _ _ fs ks h1 h2 _ hj =>
   obtain ⟨fl⟩:=fs
   obtain ⟨kl⟩:=ks
   match fl,kl,h1,h2 with
   | [],[q],_,_ =>
    have:=hj 0 _ rfl
    cases this with
    | box _ _ b hb=>rw [hmb] at hb;cases hb;rfl
 subst e1 e2
 clear r1 r2 a1 a2
 obtain ⟨l⟩:=cs
 match l,hsz with
 | [v0,v1,v2,v3,v4,v5,v6,v7,v8,v9,v10,v11],_ =>
 have g:=fun (j:Nat) (c:PV) (hc:T.cells[j]? = some c)=>hR j c hc
 have s0:=(g 0 _ rfl).str_inv
 obtain ⟨cap1,b1,o1,s1,hcs⟩:=M4 a3.ok (g 1 _ rfl)
 have s2:=(g 2 _ rfl).int_inv
 obtain ⟨au,nu,cap2,b2,o2,s3,hnu,hau,hus⟩:=Nx a3.ok (g 3 _ rfl)
 have s4:R X (nI T.kk) v4:=by have:=g 4 _ rfl;rw [h.k] at this;exact this
 have s4:=s4.int_inv
 obtain ⟨al,nl,cap3,b3,o3,s11,hnl,hal,hls⟩:=Ny a3.ok (g 11 _ rfl)
 obtain rfl:v0=_:=s0
 obtain rfl:v1=_:=s1
 obtain rfl:v2=_:=s2
 obtain rfl:v3=_:=s3
 subst s4
 obtain rfl:v11=_:=s11
 have hb1:b1 < w.heap.size:=cell_lt (hcs 0 (by have:=h.ne;cases hh:T.cols with|nil=>exact absurd hh this|cons _ _=>simp)).1
 have hbx:=Nw hheap
 have hbl:bx < w.heap.size:=cell_lt (hbx 0 _ rfl)
 have hon:=fun v (hv:v∈_)=>hone v hv
 have ne0:0 < T.cols.length:=by have:=h.ne;cases hh:T.cols with|nil=>exact absurd hh this|cons _ _=>simp
 let t:Ao:=⟨⟨T.nm.toArray⟩, .slice (some ⟨b1,o1,none⟩) T.cols.length cap1,(T.key:Int), .slice au nu cap2,T.kk,v5,v6,v7,v8,v9,v10, .slice al nl cap3⟩
 have hval:R X (.agg T.cells) t.val:=.agg T.cells _ rfl (fun j c hc=>g j c hc) hon
 have hckv:R X T.ck.pv t.ckV:=by
  refine .agg _ _ rfl (fun j c hc=>?_) (fun v hv=>hon v ?_)
  ·match j,hc with
   | 0,hc=>cases hc;rw [h.k];exact .int _ _
   | 1,hc=>exact g 5 c hc
   | 2,hc=>exact g 6 c hc
   | 3,hc=>exact g 7 c hc
   | 4,hc=>exact g 8 c hc
   | 5,hc=>exact g 9 c hc
   | 6,hc=>exact g 10 c hc
  ·simp only [List.mem_toArray,List.mem_cons,List.not_mem_nil,or_false] at hv ⊢
   rcases hv with rfl|rfl|rfl|rfl|rfl|rfl|rfl<;>simp [t]
 have hat:t.at w bx:=⟨hbx 0 _ rfl,hbx 1 _ rfl,hbx 2 _ rfl,hbx 3 _ rfl,hbx 4 _ rfl,hbx 5 _ rfl,hbx 6 _ rfl,hbx 7 _ rfl,hbx 8 _ rfl,hbx 9 _ rfl,hbx 10 _ rfl,hbx 11 _ rfl⟩
 have hb2:0 < nu→b2 < w.heap.size:=fun hp=>cell_lt (hus 0 (by omega))
 have hb3:0 < nl→b3 < w.heap.size:=fun hp=>cell_lt (hls 0 (by omega)).1
 have htot:=h.tot
 have gd:∀ j,j < T.cols.length→T.cols.getD j ([],0,false)∈T.cols:=fun j hj=>by rw [List.getD,List.getElem?_eq_getElem hj];exact List.getElem_mem hj
 have gu:∀ j,j < T.uq.length→T.uq.getD j 0∈T.uq:=fun j hj=>by rw [List.getD,List.getElem?_eq_getElem hj];exact List.getElem_mem hj
 have gl:∀ j,j < T.lk.length→T.lk.getD j (0,[])∈T.lk:=fun j hj=>by rw [List.getD,List.getElem?_eq_getElem hj];exact List.getElem_mem hj
 have hpkl:T.pkT.length≤60000:=by have:=Tg.cn_len h T.key;unfold Tg.pkT;simp only [List.length_append,Rl,List.length_cons,List.length_nil];omega
 have hul:∀ i,(T.uT i).length≤60000:=fun i=>by have:=Tg.cn_len h i;unfold Tg.uT;simp only [List.length_append,Ui,List.length_cons,List.length_nil];omega
 have hkl:T.kT.length≤60000:=by have:=h.cl;unfold Tg.kT;simp only [List.length_append,Ua,List.length_cons,List.length_nil];omega
 have hll:∀ j,j < T.lk.length→(T.lT (T.lk.getD j (0,[]))).length≤60000:=fun j hj=>by
  have h1:=Tg.cn_len h (T.lk.getD j (0,[])).1
  have h2:=(h.lk _ (gl j hj)).2
  unfold Tg.lT;simp only [List.length_append,Kp,Ks];omega
 have key:=G8 6 (Nat.le_refl _) #[.pointer (some ⟨bx,0,none⟩)] (T.cols.length+nu+nl+2) (fun x:BA=>x.1)
  (upto (fun j=>Am (cT (T.cols.getD j ([],0,false)).1 (T.cols.getD j ([],0,false)).2.1 (T.cols.getD j ([],0,false)).2.2)) T.cols.length++[Am T.pkT]++upto (fun j=>Am (T.uT (T.uq.getD j 0))) nu++(if T.kk=0 then [] else [Am T.kT])++upto (fun j=>Am (T.lT (T.lk.getD j (0,[])))) nl)
  (fun _=>True) (by omega) w (fun x=>x.2) (fun W0 hW0 =>
   Gj 5 (by omega) bx w.heap.size b1 o1 T.cols.length cap1 t rfl b2 o2 au nu cap2 rfl hau b3 o3 al nl cap3 rfl hal (fun x:BA=>x.1)
    (fun j=>(⟨(T.cols.getD j ([],0,false)).1.toArray⟩,((T.cols.getD j ([],0,false)).2.1+1:Nat),(T.cols.getD j ([],0,false)).2.2)) (fun j=>(T.uq.getD j 0:Nat)) (fun j=>((T.lk.getD j (0,[])).1,⟨(T.lk.getD j (0,[])).2.toArray⟩))
    (fun j=>Am (cT (T.cols.getD j ([],0,false)).1 (T.cols.getD j ([],0,false)).2.1 (T.cols.getD j ([],0,false)).2.2)) (fun j=>Am (T.uT (T.uq.getD j 0))) (fun j=>Am (T.lT (T.lk.getD j (0,[])))) (Am T.pkT) (Am T.kT)
    hbl hb1 hb2 hb3 (by omega) (by omega) (by omega) _ W0
    (fun j W' hj hb=>by
     have hc:=h.c1 _ (gd j hj)
     rw [Bj (J0 hc.1 hc.2 _)]
     refine Gw (Nc (by omega) hc.2 _) (Ew a3.ok (hW0.trans hb)) rfl (fun q p hp=>?_)
     match q,hp with
     | 0,hp =>
      cases hp
      refine .agg _ _ rfl (fun q c hc=>?_) (fun v hv=>?_)
      ·match q,hc with
       | 0,hc=>cases hc;exact R.str ⟨(T.cols.getD j ([],0,false)).1.toArray⟩
       | 1,hc=>cases hc;exact .int _ _
       | 2,hc=>cases hc;exact .bool _
      ·simp only [List.mem_toArray,List.mem_cons,List.not_mem_nil,or_false] at hv
       rcases hv with rfl|rfl|rfl<;>rfl)
    (fun i=>⟨(T.cn i.toNat).toArray⟩) (fun i=>by have:=Tg.cn_len h i.toNat;show (T.cn i.toNat).toArray.size≤50000;rw [List.size_toArray];omega) (fun i=>0≤i∧i.toNat < T.cols.length)
    (fun i W' hi hb=>by
     obtain ⟨m,rfl⟩:∃ m:Nat,i=m:=⟨i.toNat,by omega⟩
     refine Gw (Tg.own h (i:=m) (by simpa using hi.2)) (Ew a3.ok (hW0.trans hb)) rfl (fun q p hp=>?_)
     match q,hp with
     | 0,hp=>cases hp;exact hval
     | 1,hp=>cases hp;exact .int _ _)
    ⟨Int.natCast_nonneg _,by show ((T.key:Nat):Int).toNat < _;simpa using h.key⟩ (fun j hj=>⟨Int.natCast_nonneg _,by have:=h.uq _ (gu j (by omega));simpa using this⟩) (fun j hj=>⟨Int.natCast_nonneg _,by have:=(h.lk _ (gl j (by omega))).1;simpa using this⟩)
    ⟨T.ct.toArray⟩ (by show T.ct.toArray.size≤50000;rw [List.size_toArray];exact h.cl)
    (fun hk W' hb=>by
     refine Gw (h.ce hk) (Ew a3.ok (hW0.trans hb)) rfl (fun q p hp=>?_)
     match q,hp with
     | 0,hp=>cases hp;exact hckv)
    (by rw [Bj hpkl];unfold Tg.pkT;rw [Bv,Bv,S4];rfl) (fun j hj=>by rw [Bj (hul _)];unfold Tg.uT;rw [Bv,Bv,Ru];rfl) (by rw [Bj hkl];unfold Tg.kT;rw [Bv,Bv,Su])
    (fun j hj=>by rw [Bj (hll j (by omega))];unfold Tg.lT;rw [Bv,Bv,Bv,Sz,Rq];rfl) (fun j hj=>by
     have:=(h.lk _ (gl j (by omega))).2
     show (T.lk.getD j (0,[])).2.toArray.size≤100
     rw [List.size_toArray];exact this)
    hW0.size (hat.below hW0 hbl)
    (fun j hj=>⟨(hW0.cell (p:=⟨b1,_,none⟩) hb1).trans (hcs j hj).1,(hW0.cell (p:=⟨b1,_,none⟩) hb1).trans (hcs j hj).2.1,(hW0.cell (p:=⟨b1,_,none⟩) hb1).trans (hcs j hj).2.2⟩)
    (fun j hj=>(hW0.cell (p:=⟨b2,_,none⟩) (hb2 (by omega))).trans (hus j (by omega)))
    (fun j hj=>⟨(hW0.cell (p:=⟨b3,_,none⟩) (hb3 (by omega))).trans (hls j (by omega)).1,(hW0.cell (p:=⟨b3,_,none⟩) (hb3 (by omega))).trans (hls j (by omega)).2⟩) (Nat.le_refl _))
 have hfin:(upto (fun j=>Am (cT (T.cols.getD j ([],0,false)).1 (T.cols.getD j ([],0,false)).2.1 (T.cols.getD j ([],0,false)).2.2)) T.cols.length++[Am T.pkT]++upto (fun j=>Am (T.uT (T.uq.getD j 0))) nu++(if T.kk=0 then [] else [Am T.kT])++upto (fun j=>Am (T.lT (T.lk.getD j (0,[])))) nl).map (fun x:BA=>x.1)=T.items.map fun t=>⟨t.toArray⟩:=by
  subst hnu hnl
  rw [Gx (fun c:GC=>Am (cT c.1 c.2.1 c.2.2)),Gx (fun i=>Am (T.uT i)),Gx (fun x=>Am (T.lT x))]
  unfold Tg.items
  simp only [List.map_append,List.map_map,List.map_cons,List.map_nil,Bj hpkl]
  have m1:T.cols.map ((fun x:BA=>x.1) ∘ fun c:GC=>Am (cT c.1 c.2.1 c.2.2))=T.cols.map ((fun t:List UInt8=>(⟨t.toArray⟩:ByteArray)) ∘ fun c:GC=>cT c.1 c.2.1 c.2.2):=List.map_congr_left fun c hc=>Bj (J0 (h.c1 c hc).1 (h.c1 c hc).2 _)
  have m2:T.uq.map ((fun x:BA=>x.1) ∘ fun i=>Am (T.uT i))=T.uq.map ((fun t:List UInt8=>(⟨t.toArray⟩:ByteArray)) ∘ T.uT):=List.map_congr_left fun i _=>Bj (hul i)
  have m3:T.lk.map ((fun x:BA=>x.1) ∘ fun x=>Am (T.lT x))=T.lk.map ((fun t:List UInt8=>(⟨t.toArray⟩:ByteArray)) ∘ T.lT):=List.map_congr_left fun x hx=>Bj (by
   have h1:=Tg.cn_len h x.1
   have h2:=(h.lk x hx).2
   unfold Tg.lT;simp only [List.length_append,Kp,Ks];omega)
  rw [m1,m2,m3]
  by_cases hk:T.kk=0
  ·simp only [hk,if_true,List.map_nil]
  ·simp only [hk,if_false,List.map_cons,List.map_nil,Bj hkl]
 rw [hfin] at key
 refine ((callsIn_wide (n:=6)).1 key).mono ?_
 rintro e w' ⟨rfl,bel⟩
 exact ⟨⟨_,rfl, .str ⟨_⟩⟩,bel⟩
open Go Go.RowKit
def U4:Fact:=.st Ia [.agg [.fn Ik [] []], .fn Ib [] [.box 0 0]] [.box Bd] (.atom 22) [.box Bd]
theorem Oa:Lp [sA (.str (kw "create table ")) (.atom 0) (.atom 20),sA (.atom 20) (.str (kw " (")) (.atom 21),U4,sA (.atom 21) (.atom 22) (.atom 23),sA (.atom 23) (.str (kw ")")) (.atom 24)] (Dv (nI 1) Bd (.str []) (.str []) (.str []) .nilslice E7.zero.L E7.zero.L) (.atom 24)=true:=by kernel_rfl
theorem Nr {T:Tg} (h:T.Ok) (hn:T.nm.length≤100) (hl:(joinL T.items).length≤60000):Ev PG Bt [Ap 1 T.cells [] [] [] .nilslice E7.zero E7.zero] (.str (kw "create table " ++ T.nm++kw " (" ++ joinL T.items++kw ")")):=by
 have k1:(kw "create table ").length=13:=by decide
 have k2:(kw " (").length=2:=by decide
 have k3:(kw ")").length=1:=by decide
 have hk:=h.ck
 simp only [E7.ok,E7.L,List.all_cons,List.all_nil,Bool.and_true] at hk
 have hgc:((Ar T.cols).clean&&(Ar T.cols).pure)=true:=G0 T.cols
 have hgood:(T.cells.all fun p=>p.clean&&p.pure)=true:=by
  unfold Tg.cells
  simp only [List.all_cons,List.all_nil,I7,Ja,hgc,Bool.and_true,Bool.true_and]
  exact hk
 have hpure:PV.pureL T.cells=true:=by
  have:∀ l:List PV,(l.all fun p=>p.clean&&p.pure)=true→PV.pureL l=true:=fun l=>by
   induction l with
   | nil=>intro _;rfl
   | cons a l ih =>
    intro hh
    rw [List.all_cons,Bool.and_eq_true,Bool.and_eq_true] at hh
    show (a.pure&&PV.pureL l)=true
    rw [hh.1.2,ih hh.2];rfl
  exact this _ hgood
 have hnu:NuOk (nuL (T.cells++[nI 0,nI 0,nI 0,nI 0,nI 0,nI 0,nI 0,nI 0, .str (kw "create table " ++ T.nm), .str (kw "create table " ++ T.nm++kw " ("), .str (joinL T.items), .str (kw "create table " ++ T.nm++kw " (" ++ joinL T.items), .str (kw "create table " ++ T.nm++kw " (" ++ joinL T.items++kw ")")])):=nuL_okB (by rw [List.all_append,hgood];rfl)
 have hT:subD (nuL (T.cells++[nI 0,nI 0,nI 0,nI 0,nI 0,nI 0,nI 0,nI 0, .str (kw "create table " ++ T.nm), .str (kw "create table " ++ T.nm++kw " ("), .str (joinL T.items), .str (kw "create table " ++ T.nm++kw " (" ++ joinL T.items), .str (kw "create table " ++ T.nm++kw " (" ++ joinL T.items++kw ")")])) (Dv (nI 1) Bd (.str []) (.str []) (.str []) .nilslice E7.zero.L E7.zero.L)=Ap 1 T.cells [] [] [] .nilslice E7.zero E7.zero:=rfl
 have hpp:(Ap 1 T.cells [] [] [] .nilslice E7.zero E7.zero).pure=true:=by
  show PV.pureL (nI 1::(T.cells++_))=true
  simp only [PV.pureL,Gv,hpure]
  rfl
 have:=Ev.facts (args:=[Dv (nI 1) Bd (.str []) (.str []) (.str []) .nilslice E7.zero.L E7.zero.L]) (r:=.atom 24) prog_ok hnu (okR_eq Oa)
  ⟨Ac (l:=kw "create table ") (m:=T.nm) rfl rfl (by omega) rfl rfl,Ac (l:=kw "create table " ++ T.nm) (m:=kw " (") rfl rfl (by rw [List.length_append];omega) rfl rfl,Dy (N5 h) rfl rfl rfl rfl rfl,
   Ac (l:=kw "create table " ++ T.nm++kw " (") (m:=joinL T.items) rfl rfl (by simp only [List.length_append];omega) rfl rfl,Ac (l:=kw "create table " ++ T.nm++kw " (" ++ joinL T.items) (m:=kw ")") rfl rfl (by simp only [List.length_append];omega) rfl rfl,trivial⟩
  (Jj hT hpp rfl rfl) rfl
 simp only [List.map_cons,List.map_nil,hT] at this
 exact this
open Go Go.RowKit
open Go Go.RowKit
end Go.Proofs.YtdlkibeljkapeaaGreatDoor.Den
