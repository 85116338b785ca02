-- Written by drive.py and pack.py (programs of this proof's own) through the kit's printer; not trusted: Lean checks it.
import Derived.Test.YtdlkibeljkapeaaGreatDoorCSqlBlanks11
namespace Go.Proofs.YtdlkibeljkapeaaGreatDoor.Den
open Go Go.RowKit
def tcA:List PV:=(List.range 12).map fun i=>.atom i
def cbA (i:Nat):List Res:=(List.range i).map fun m=>.box [.atom (12+3*m), .atom (13+3*m), .atom (14+3*m)]
def csA (i:Nat):List Res:=.box tcA::cbA i
def frL:PV:=.slice 1 [nI 0,nI 5,nI 9,nI 13,nI 18]
def toL:PV:=.slice 1 [nI 4,nI 8,nI 12,nI 17,nI 23]
def crT (i s:PV):List (Nat × PV):=[(1, .box 0 0),(3,s),(4,frL),(5,toL),(6,i)]
noncomputable abbrev crRun (rid:Nat) (fs:List Fact) (T:List (Nat × PV)) (s:List Res):Option (Ex × St):=execN PG (fOrc noOwn fs) (callF PG (fOrc noOwn fs) 5) ((fOrc noOwn fs).loop f_r3_created) 5 3 (loopAt PG f_r3_created rid) ⟨T,s⟩
def crL (ty:Nat) (c:Nat) (b:Bool):List Fact:=[.op (.len ty) [.atom c] (.atom 25),oI .lss (.atom 24) (.atom 25) (.bool b)]
def crC (t:Nat) (nn:Bool):List Fact :=
 crL ty_sl_api_Col 1 true++[.op (.ix ty_sl_api_Col) [.atom 1, .atom 24] (.ref [.atom 33,nI (t+1:Nat), .bool nn]),sA (.atom 26) (.atom 33) (.atom 27),sA (.atom 27) (.str [32]) (.atom 28),sA (.atom 28) (.str (kw (tyW.getD t ""))) (.atom 29)] ++
 (match nn with|true=>[sA (.atom 29) (.str (kw " not null")) (.atom 30),sA (.atom 30) (.str (kw ", ")) (.atom 31)]|false=>[sA (.atom 29) (.str (kw ", ")) (.atom 31)])++[oI .add (.atom 24) (nI 1) (.atom 32)]
theorem cr_lone5:loneB PG f_r3_created 5=true:=by kernel_rfl
theorem cr_lone14:loneB PG f_r3_created 14=true:=by kernel_rfl
theorem cr_lone20:loneB PG f_r3_created 20=true:=by kernel_rfl
theorem cr_c0:((List.range 5).all fun i=>runsB (crRun 5 (crL ty_sl_api_Col 1 false) (crT (.atom 24) (.atom 26)) (csA i)) (.exit 0) [(1, .box 0 0),(3, .atom 26)] (csA i))=true:=by kernel_rfl
theorem cr_c1:((List.range 4).all fun i=>(List.range 5).all fun t=>bl fun nn=>runsB (crRun 5 (crC t nn) (crT (.atom 24) (.atom 26)) (csA i)) .normal (crT (.atom 32) (.atom 31)) (csA i++[.box [.atom 33,nI (t+1:Nat), .bool nn]]))=true:=by kernel_rfl
def uqT (i s:PV):List (Nat × PV):=[(1, .box 0 0),(3,s),(8,i)]
def crU:List Fact:=crL ty_sl_int 3 true++[.op (.ix ty_sl_int) [.atom 3, .atom 24] (.ref [.atom 34]), .op (.ix ty_sl_api_Col) [.atom 1, .atom 34] (.ref [.atom 33, .atom 35, .atom 36]),sA (.atom 26) (.str (kw ", unique (")) (.atom 27),sA (.atom 27) (.atom 33) (.atom 28),sA (.atom 28) (.str (kw ")")) (.atom 31),oI .add (.atom 24) (nI 1) (.atom 32)]
theorem cr_u0:((List.range 5).all fun k=>runsB (crRun 14 (crL ty_sl_int 3 false) (uqT (.atom 24) (.atom 26)) (csA k)) (.exit 2) [(1, .box 0 0),(3, .atom 26)] (csA k))=true:=by kernel_rfl
theorem cr_u1:((List.range 5).all fun k=>runsB (crRun 14 crU (uqT (.atom 24) (.atom 26)) (csA k)) .normal (uqT (.atom 32) (.atom 31)) (csA k))=true:=by kernel_rfl
def lkT (i s:PV):List (Nat × PV):=[(1, .box 0 0),(3,s),(9,i)]
def crK:List Fact:=crL ty_sl_api_Link 11 true++[.op (.ix ty_sl_api_Link) [.atom 11, .atom 24] (.ref [.atom 34, .atom 37]), .op (.ix ty_sl_api_Col) [.atom 1, .atom 34] (.ref [.atom 33, .atom 35, .atom 36]),sA (.atom 26) (.str (kw ", foreign key (")) (.atom 27),sA (.atom 27) (.atom 33) (.atom 28),sA (.atom 28) (.str (kw ") references ")) (.atom 29),sA (.atom 29) (.atom 37) (.atom 31),oI .add (.atom 24) (nI 1) (.atom 32)]
theorem cr_l0:((List.range 5).all fun k=>runsB (crRun 20 (crL ty_sl_api_Link 11 false) (lkT (.atom 24) (.atom 26)) (csA k)) (.exit 4) [(1, .box 0 0),(3, .atom 26)] (csA k))=true:=by kernel_rfl
theorem cr_l1:((List.range 5).all fun k=>runsB (crRun 20 crK (lkT (.atom 24) (.atom 26)) (csA k)) .normal (lkT (.atom 32) (.atom 31)) (csA k))=true:=by kernel_rfl
def crF (k : Nat) (ck : Bool) : List Fact :=
  [sA (.str (kw "create table ")) (.atom 0) (.atom 39), sA (.atom 39) (.str (kw " (")) (.atom 40), .loop f_r3_created 5 (crT (nI 0) (.atom 40)) (csA 0) (.exit 0) [(1, .box 0 0), (3, .atom 41)] (csA k),
   sA (.atom 41) (.str (kw "primary key (")) (.atom 42), .op (.ix ty_sl_api_Col) [.atom 1, .atom 2] (.ref [.atom 33, .atom 35, .atom 36]), sA (.atom 42) (.atom 33) (.atom 43), sA (.atom 43) (.str (kw ")")) (.atom 44),
   .loop f_r3_created 14 (uqT (nI 0) (.atom 44)) (csA k) (.exit 2) [(1, .box 0 0), (3, .atom 45)] (csA k)] ++
  (match ck with
    | true => [oI .neq (.atom 4) (nI 0) (.bool true), sA (.atom 45) (.str (kw ", check (")) (.atom 49), .prim f_r3_Expr [.agg ((List.range 7).map fun i => .atom (4 + i))] (.atom 50), sA (.atom 49) (.atom 50) (.atom 51), sA (.atom 51) (.str (kw ")")) (.atom 46)]
    | false => [oI .neq (.atom 4) (nI 0) (.bool false)]) ++
  [.loop f_r3_created 20 (lkT (nI 0) (.atom (if ck then 46 else 45))) (csA k) (.exit 4) [(1, .box 0 0), (3, .atom 47)] (csA k), sA (.atom 47) (.str (kw ")")) (.atom 48)]
theorem crt_k:((List.range 5).all fun k=>bl fun ck=>okR (.atom 48) (callF PG (fOrc noOwn (crF k ck)) 10 f_r3_created [.agg tcA] []))=true:=by kernel_rfl
end Go.Proofs.YtdlkibeljkapeaaGreatDoor.Den
namespace Go.Proofs.YtdlkibeljkapeaaGreatDoor.Den
open Go Go.RowKit
section
variable (b:Tb)
def Tb.cb (i:Nat):List PV:=[.str (cnm i),nI (b.ty i), .bool (b.nn i)]
def Tb.base:List PV:=b.val++(b.cb 0++(b.cb 1++(b.cb 2++b.cb 3)))
def Tb.rNu (i n:Int) (S a c d e f w:List UInt8) (ix:Int) (p q:PV) (w2:List UInt8):List PV:=b.base++[nI i,nI n, .str S, .str a, .str c, .str d, .str e, .str f,nI (i+1), .str w,nI ix,p,q, .str w2]
def Tb.cs (i:Nat):List Res:=.box b.val::(List.range i).map fun m=>.box (b.cb m)
theorem val_good:(b.val.all fun p=>p.clean&&p.pure)=true:=by
 have h1:=good_uq b b.u
 have h2:=good_lk b b.l
 have h3:((wX b.ck).L.all fun p=>p.clean&&p.pure)=true:=wX_ok b.ck
 have e1:PV.pureL ((List.range b.k).map (colV b.ty b.nn))=true:=by
  generalize List.range b.k=l
  induction l with
  | nil=>rfl
  | cons a l ih=>simp only [List.map_cons,PV.pureL,ih];rfl
 show (([PV.str b.nm, .slice 3 ((List.range b.k).map (colV b.ty b.nn)),nI b.key,b.uqV b.u]++((wX b.ck).L++[b.lkV b.l])).all fun p=>p.clean&&p.pure)=true
 rw [List.all_append,List.all_append,h3]
 have hc:((PV.slice 3 ((List.range b.k).map (colV b.ty b.nn))).clean&&(PV.slice 3 ((List.range b.k).map (colV b.ty b.nn))).pure)=true:=by
  show (true&&PV.pureL _)=true
  rw [e1];rfl
 simp only [List.all_cons,List.all_nil,h1,h2,hc]
 rfl
theorem base_good:(b.base.all fun p=>p.clean&&p.pure)=true:=by
 unfold Tb.base
 rw [List.all_append,val_good]
 rfl
theorem rNu_ok {i n:Int} {S a c d e f w:List UInt8} {ix:Int} {p q:PV} {w2:List UInt8} (hp:(p.clean&&p.pure)=true) (hq:(q.clean&&q.pure)=true):NuOk (nuL (b.rNu i n S a c d e f w ix p q w2)):=by
 refine nuL_okB ?_
 unfold Tb.rNu
 rw [List.all_append,base_good]
 simp only [List.all_cons,List.all_nil,hp,hq]
 rfl
theorem cs_sub {X:List PV} {i:Nat} (hi:i≤4):(csA i).map (subRes (nuL (b.base++X)))=b.cs i:=by
 have:i=0∨i=1∨i=2∨i=3∨i=4:=by omega
 rcases this with rfl|rfl|rfl|rfl|rfl<;>rfl
theorem cs_fn (i:Nat) (nu:Nat→PV):(csA i).all (fnRes nu)=true:=by
 show (fnRes nu (.box tcA)&&(cbA i).all (fnRes nu))=true
 have h:(cbA i).all (fnRes nu)=true:=by
  refine List.all_eq_true.2 fun r hr=>?_
  obtain ⟨m,_,rfl⟩:=List.mem_map.1 hr
  rfl
 rw [h];rfl
theorem cs_pure (i:Nat):(b.cs i).all pureRes=true:=by
 show (pureRes (.box b.val)&&((List.range i).map fun m=>Res.box (b.cb m)).all pureRes)=true
 have h:b.val.all PV.pure=true:=List.all_eq_true.2 fun p hp=>by
  have:=List.all_eq_true.1 (val_good b) p hp
  rw [Bool.and_eq_true] at this
  exact this.2
 rw [show pureRes (.box b.val)=true from h,Bool.true_and]
 refine List.all_eq_true.2 fun r hr=>?_
 obtain ⟨m,_,rfl⟩:=List.mem_map.1 hr
 rfl
def Tb.colT (i:Nat):List UInt8:=cnm i++([32]++(kw (tyW.getD (b.t i) "")++((match b.nn i with|true=>kw " not null" | false=>[])++kw ", ")))
def Tb.colsT:Nat→List UInt8
 | 0=>[]
 | i+1=>Tb.colsT i++b.colT i
def Tb.uqT (i:Nat):List UInt8:=kw ", unique (" ++ (cnm (b.uq i)++kw ")")
def Tb.uqsT:Nat→List UInt8
 | 0=>[]
 | i+1=>Tb.uqsT i++b.uqT i
def Tb.lkT (i:Nat):List UInt8:=kw ", foreign key (" ++ (cnm (b.lc i)++(kw ") references " ++ b.ln i))
def Tb.lksT:Nat→List UInt8
 | 0=>[]
 | i+1=>Tb.lksT i++b.lkT i
end
theorem tyW_len:∀ m,m < 5→(kw (tyW.getD m "")).length≤5:=by decide +kernel
theorem nm_len {w:List UInt8} (h:NmOk w):w.length≤12:=by
 have:=h.wd
 cases w with
 | nil=>cases this
 | cons c r =>
  simp only [wdB,Bool.and_eq_true,Nat.ble_eq] at this
  simp;omega
section
variable {b:Tb} (hb:b.Wf)
include hb
theorem colT_len (i:Nat):(b.colT i).length≤18:=by
 have h1:=tyW_len (b.t i) (hb.t i)
 unfold Tb.colT
 have h2:(match b.nn i with|true=>kw " not null" | false=>[]).length≤9:=by cases b.nn i<;>decide
 have h3:(kw ", ").length=2:=by decide
 simp only [List.length_append,List.length_cons,List.length_nil,h3,show (cnm i).length=1 from rfl]
 omega
theorem colsT_len (i:Nat):(b.colsT i).length≤18*i:=by
 induction i with
 | zero=>simp [Tb.colsT]
 | succ i ih =>
  have:=colT_len hb i
  simp only [Tb.colsT,List.length_append]
  omega
theorem uqsT_len (i:Nat):(b.uqsT i).length≤12*i:=by
 have _h:=hb.k
 induction i with
 | zero=>simp [Tb.uqsT]
 | succ i ih =>
  have h1:(kw ", unique (").length=10:=by decide
  have h2:(kw ")").length=1:=by decide
  simp only [Tb.uqsT,Tb.uqT,List.length_append,h1,h2,show (cnm (b.uq i)).length=1 from rfl]
  omega
theorem lksT_len (i:Nat):(b.lksT i).length≤60*i:=by
 induction i with
 | zero=>simp [Tb.lksT]
 | succ i ih =>
  have h1:(kw ", foreign key (").length=15:=by decide
  have h2:(kw ") references ").length=13:=by decide
  have h3:=nm_len (hb.ln i)
  simp only [Tb.lksT,Tb.lkT,List.length_append,h1,h2,show (cnm (b.lc i)).length=1 from rfl]
  omega
theorem len_cols:lenP PG ty_sl_api_Col (.slice 3 ((List.range b.k).map (colV b.ty b.nn)))=some (nI b.k):=by
 have _h:=hb.k
 have hu:PG.underlying ty_sl_api_Col=some (.slice ty_api_Col):=by kernel_rfl
 unfold lenP
 rw [hu]
 show some (nI ((List.map (colV b.ty b.nn) (List.range b.k)).length:Nat))=_
 simp
theorem ix_cols {i:Nat} (hi:i < b.k):indexAddrP PG ty_sl_api_Col (.slice 3 ((List.range b.k).map (colV b.ty b.nn))) (nI i)=some (.ref [.str (cnm i),nI (b.ty i), .bool (b.nn i)]):=by
 have _h:=hb.k
 have hu:PG.underlying ty_sl_api_Col=some (.slice ty_api_Col):=by kernel_rfl
 have hs:sizeP PG ty_api_Col=some 3:=by kernel_rfl
 unfold indexAddrP
 rw [hu]
 have:((List.range b.k).map (colV b.ty b.nn))[((i:Nat):Int).toNat]? = some (colV b.ty b.nn i):=by
  simp [hi]
 simp only [hs,true_and]
 rw [if_pos (by omega),this]
 rfl
set_option maxRecDepth 40000 in
theorem cols_loop {S0:List UInt8} (hS:S0.length≤1000000):∀ (d i:Nat),i+d=b.k→RunsR PG (ntOf PG f_r3_created) (loopAt PG f_r3_created 5) (crT (nI i) (.str (S0++b.colsT i))) (b.cs i) (.exit 0) [(1, .box 0 0),(3, .str (S0++b.colsT b.k))] (b.cs b.k):=by
 have hk:=hb.k
 intro d
 induction d with
 | zero =>
  intro i hi
  obtain rfl:i=b.k:=by omega
  refine RunsR.leave ?_ (fun h=>by cases h)
  have:=RunsP.chk (nu:=nuL (b.rNu b.k b.k (S0++b.colsT b.k) [] [] [] [] [] [] 0 (nI 0) (nI 0) [])) prog_ok (rNu_ok b rfl rfl) (T:=crT (.atom 24) (.atom 26)) (s:=csA b.k) (T':=[(1, .box 0 0),(3, .atom 26)]) (s':=csA b.k) cr_lone5 (List.all_eq_true.1 cr_c0 b.k (by rw [List.mem_range];omega))
   ⟨⟨len_cols hb,rfl⟩,fCmp (a:=b.k) (b:=b.k) (c:=false) rfl rfl rfl (by simp only [intP];rw [decide_eq_false (by omega)]) (by decide) rfl,trivial⟩ rfl (by unfold Tb.rNu;rw [cs_fn,cs_sub b (by omega),cs_pure];rfl) (by unfold Tb.rNu;rw [cs_sub b (by omega),cs_pure];rfl)
  unfold Tb.rNu at this
  rw [cs_sub b (by omega)] at this
  exact this
 | succ d ih =>
  intro i hi
  have hl:=colsT_len hb i
  have hct:=colT_len hb i
  have e4:IntKind.i64.wrap ((i:Int)+1)=(i:Int)+1:=w6_id (by omega) (by omega)
  have h:=ih (i+1) (by omega)
  have hty:=tyW_len (b.t i) (hb.t i)
  have hx:=ix_cols hb (i:=i) (by omega)
  have hkk:=bl_all (List.all_eq_true.1 (List.all_eq_true.1 cr_c1 i (by rw [List.mem_range];omega)) (b.t i) (by rw [List.mem_range];exact hb.t i)) (b.nn i)
  obtain ⟨S,hSe⟩:∃ S,S=S0++b.colsT i:=⟨_,rfl⟩
  have hSl:S.length≤1000100:=by rw [hSe,List.length_append];omega
  have eS:S0++b.colsT (i+1)=S++b.colT i:=by rw [hSe];simp [Tb.colsT]
  rw [← hSe]
  rw [eS] at h
  have hn1:(kw " not null").length=9:=by decide
  have hn2:(kw ", ").length=2:=by decide
  obtain ⟨S3,hS3⟩:∃ S3,S3=S++cnm i++[32]++kw (tyW.getD (b.t i) ""):=⟨_,rfl⟩
  have hS3l:S3.length≤1000200:=by rw [hS3];simp only [List.length_append,List.length_cons,List.length_nil,show (cnm i).length=1 from rfl];omega
  refine RunsR.round ?_ h
  have hnu:NuOk (nuL (b.rNu i b.k S (S++cnm i) (S++cnm i++[32]) S3 (S3++kw " not null") (S++b.colT i) (cnm i) 0 (nI 0) (nI 0) [])):=rNu_ok b rfl rfl
  have hf:FactsOk PG (nuL (b.rNu i b.k S (S++cnm i) (S++cnm i++[32]) S3 (S3++kw " not null") (S++b.colT i) (cnm i) 0 (nI 0) (nI 0) [])) (crC (b.t i) (b.nn i)):=by
   unfold crC
   refine FactsOk.append (FactsOk.append (FactsOk.append ⟨⟨len_cols hb,rfl⟩,fCmp (a:=i) (b:=b.k) (c:=true) rfl rfl rfl (by simp only [intP];rw [decide_eq_true (by omega)]) (by decide) rfl,trivial⟩ ⟨⟨hx,rfl⟩,
    fStrAdd (l:=S) (m:=cnm i) rfl rfl (by rw [show (cnm i).length=1 from rfl];omega) rfl rfl,fStrAdd (l:=S++cnm i) (m:=[32]) rfl rfl (by simp only [List.length_append,List.length_cons,List.length_nil,show (cnm i).length=1 from rfl];omega) rfl rfl,
    fStrAdd (l:=S++cnm i++[32]) (m:=kw (tyW.getD (b.t i) "")) rfl rfl (by simp only [List.length_append,List.length_cons,List.length_nil,show (cnm i).length=1 from rfl];omega) (by rw [← hS3];rfl) rfl,trivial⟩) ?_) ⟨fInt (a:=i) (b:=1) rfl rfl rfl (by simp only [intP];rw [e4]) (by decide) rfl,trivial⟩
   cases hn:b.nn i with
   | true =>
    have e:S3++kw " not null" ++ kw ", " = S++b.colT i:=by rw [hS3];simp [Tb.colT,hn]
    exact ⟨fStrAdd (l:=S3) (m:=kw " not null") rfl rfl (by omega) rfl rfl,fStrAdd (l:=S3++kw " not null") (m:=kw ", ") rfl rfl (by rw [List.length_append];omega) (by rw [e];rfl) rfl,trivial⟩
   | false =>
    have e:S3++kw ", " = S++b.colT i:=by rw [hS3];simp [Tb.colT,hn]
    exact ⟨fStrAdd (l:=S3) (m:=kw ", ") rfl rfl (by omega) (by rw [e];rfl) rfl,trivial⟩
  have e2:(csA i++[Res.box [.atom 33,nI (b.t i+1:Nat), .bool (b.nn i)]]).map (subRes (nuL (b.rNu i b.k S (S++cnm i) (S++cnm i++[32]) S3 (S3++kw " not null") (S++b.colT i) (cnm i) 0 (nI 0) (nI 0) [])))=b.cs (i+1):=by
   unfold Tb.rNu
   rw [List.map_append,cs_sub b (by omega)]
   unfold Tb.cs
   rw [List.range_succ,List.map_append]
   rfl
  have e1:(csA i).map (subRes (nuL (b.rNu i b.k S (S++cnm i) (S++cnm i++[32]) S3 (S3++kw " not null") (S++b.colT i) (cnm i) 0 (nI 0) (nI 0) [])))=b.cs i:=cs_sub b (by omega)
  have:=RunsP.chk prog_ok hnu (T:=crT (.atom 24) (.atom 26)) (s:=csA i) (T':=crT (.atom 32) (.atom 31)) (s':=csA i++[Res.box [.atom 33,nI (b.t i+1:Nat), .bool (b.nn i)]]) cr_lone5 hkk hf rfl (by rw [cs_fn,e1,cs_pure];rfl) (by rw [e2,cs_pure];rfl)
  rw [e1,e2] at this
  exact this
end
end Go.Proofs.YtdlkibeljkapeaaGreatDoor.Den
namespace Go.Proofs.YtdlkibeljkapeaaGreatDoor.Den
open Go Go.RowKit
section
variable {b:Tb} (hb:b.Wf)
theorem len_uq:lenP PG ty_sl_int (b.uqV b.u)=some (nI b.u):=by
 have hu:PG.underlying ty_sl_int=some (.slice ty_int):=by kernel_rfl
 unfold lenP Tb.uqV
 rw [hu]
 cases b.u with
 | zero=>rfl
 | succ m =>
  show some (nI ((List.map _ (List.range (m+1))).length:Nat))=_
  simp
theorem ix_uq {i:Nat} (hi:i < b.u):indexAddrP PG ty_sl_int (b.uqV b.u) (nI i)=some (.ref [nI (b.uq i)]):=by
 have hu:PG.underlying ty_sl_int=some (.slice ty_int):=by kernel_rfl
 have hs:sizeP PG ty_int=some 1:=by kernel_rfl
 obtain ⟨m,hm⟩:∃ m,b.u=m+1:=⟨b.u - 1,by omega⟩
 unfold indexAddrP Tb.uqV
 rw [hu,hm]
 have:((List.range (m+1)).map fun i=>nI (b.uq i))[((i:Nat):Int).toNat]? = some (nI (b.uq i)):=by
  rw [show ((i:Nat):Int).toNat=i by omega,List.getElem?_map,List.getElem?_range (by omega)];rfl
 simp only [hs,true_and]
 rw [if_pos (by omega),this]
 rfl
theorem len_lk:lenP PG ty_sl_api_Link (b.lkV b.l)=some (nI b.l):=by
 have hu:PG.underlying ty_sl_api_Link=some (.slice ty_api_Link):=by kernel_rfl
 unfold lenP Tb.lkV
 rw [hu]
 cases b.l with
 | zero=>rfl
 | succ m =>
  show some (nI ((List.map _ (List.range (m+1))).length:Nat))=_
  simp
theorem ix_lk {i:Nat} (hi:i < b.l):indexAddrP PG ty_sl_api_Link (b.lkV b.l) (nI i)=some (.ref [nI (b.lc i), .str (b.ln i)]):=by
 have hu:PG.underlying ty_sl_api_Link=some (.slice ty_api_Link):=by kernel_rfl
 have hs:sizeP PG ty_api_Link=some 2:=by kernel_rfl
 obtain ⟨m,hm⟩:∃ m,b.l=m+1:=⟨b.l - 1,by omega⟩
 unfold indexAddrP Tb.lkV
 rw [hu,hm]
 have:((List.range (m+1)).map fun i=>PV.agg [nI (b.lc i), .str (b.ln i)])[((i:Nat):Int).toNat]? = some (.agg [nI (b.lc i), .str (b.ln i)]):=by
  rw [show ((i:Nat):Int).toNat=i by omega,List.getElem?_map,List.getElem?_range (by omega)];rfl
 simp only [hs,true_and]
 rw [if_pos (by omega),this]
 rfl
include hb
set_option maxRecDepth 40000 in
theorem uqs_loop {S0:List UInt8} (hS:S0.length≤2000000):∀ (d i:Nat),i+d=b.u→RunsR PG (ntOf PG f_r3_created) (loopAt PG f_r3_created 14) (uqT (nI i) (.str (S0++b.uqsT i))) (b.cs b.k) (.exit 2) [(1, .box 0 0),(3, .str (S0++b.uqsT b.u))] (b.cs b.k):=by
 have hk:=hb.k
 have hu:=hb.u
 intro d
 induction d with
 | zero =>
  intro i hi
  obtain rfl:i=b.u:=by omega
  refine RunsR.leave ?_ (fun h=>by cases h)
  have:=RunsP.chk (nu:=nuL (b.rNu b.u b.u (S0++b.uqsT b.u) [] [] [] [] [] [] 0 (nI 0) (nI 0) [])) prog_ok (rNu_ok b rfl rfl) (T:=uqT (.atom 24) (.atom 26)) (s:=csA b.k) (T':=[(1, .box 0 0),(3, .atom 26)]) (s':=csA b.k) cr_lone14 (List.all_eq_true.1 cr_u0 b.k (by rw [List.mem_range];omega))
   ⟨⟨len_uq,rfl⟩,fCmp (a:=b.u) (b:=b.u) (c:=false) rfl rfl rfl (by simp only [intP];rw [decide_eq_false (by omega)]) (by decide) rfl,trivial⟩ rfl (by unfold Tb.rNu;rw [cs_fn,cs_sub b (by omega),cs_pure];rfl) (by unfold Tb.rNu;rw [cs_sub b (by omega),cs_pure];rfl)
  unfold Tb.rNu at this
  rw [cs_sub b (by omega)] at this
  exact this
 | succ d ih =>
  intro i hi
  have hl:=uqsT_len hb i
  have e4:IntKind.i64.wrap ((i:Int)+1)=(i:Int)+1:=w6_id (by omega) (by omega)
  have h:=ih (i+1) (by omega)
  have hx:=ix_cols hb (hb.uq i)
  obtain ⟨S,hSe⟩:∃ S,S=S0++b.uqsT i:=⟨_,rfl⟩
  have hSl:S.length≤2000100:=by rw [hSe,List.length_append];omega
  have eS:S0++b.uqsT (i+1)=S++b.uqT i:=by rw [hSe];simp [Tb.uqsT]
  rw [← hSe]
  rw [eS] at h
  have hn1:(kw ", unique (").length=10:=by decide
  have hn2:(kw ")").length=1:=by decide
  refine RunsR.round ?_ h
  have hnu:NuOk (nuL (b.rNu i b.u S (S++kw ", unique (") (S++kw ", unique (" ++ cnm (b.uq i)) [] [] (S++b.uqT i) (cnm (b.uq i)) (b.uq i) (nI (b.ty (b.uq i))) (.bool (b.nn (b.uq i))) [])):=rNu_ok b rfl rfl
  have hf:FactsOk PG (nuL (b.rNu i b.u S (S++kw ", unique (") (S++kw ", unique (" ++ cnm (b.uq i)) [] [] (S++b.uqT i) (cnm (b.uq i)) (b.uq i) (nI (b.ty (b.uq i))) (.bool (b.nn (b.uq i))) [])) crU:=by
   unfold crU
   have e:S++kw ", unique (" ++ cnm (b.uq i)++kw ")" = S++b.uqT i:=by simp [Tb.uqT]
   exact FactsOk.append ⟨⟨len_uq,rfl⟩,fCmp (a:=i) (b:=b.u) (c:=true) rfl rfl rfl (by simp only [intP];rw [decide_eq_true (by omega)]) (by decide) rfl,trivial⟩ ⟨⟨ix_uq (by omega),rfl⟩,⟨hx,rfl⟩,
    fStrAdd (l:=S) (m:=kw ", unique (") rfl rfl (by omega) rfl rfl,fStrAdd (l:=S++kw ", unique (") (m:=cnm (b.uq i)) rfl rfl (by rw [List.length_append,show (cnm (b.uq i)).length=1 from rfl];omega) rfl rfl,
    fStrAdd (l:=S++kw ", unique (" ++ cnm (b.uq i)) (m:=kw ")") rfl rfl (by rw [List.length_append,List.length_append,show (cnm (b.uq i)).length=1 from rfl];omega) (by rw [e];rfl) rfl,fInt (a:=i) (b:=1) rfl rfl rfl (by simp only [intP];rw [e4]) (by decide) rfl,trivial⟩
  have:=RunsP.chk prog_ok hnu (T:=uqT (.atom 24) (.atom 26)) (s:=csA b.k) (T':=uqT (.atom 32) (.atom 31)) (s':=csA b.k) cr_lone14 (List.all_eq_true.1 cr_u1 b.k (by rw [List.mem_range];omega)) hf rfl (by unfold Tb.rNu;rw [cs_fn,cs_sub b (by omega),cs_pure];rfl) (by unfold Tb.rNu;rw [cs_sub b (by omega),cs_pure];rfl)
  unfold Tb.rNu at this
  rw [cs_sub b (by omega)] at this
  exact this
set_option maxRecDepth 40000 in
theorem lks_loop {S0:List UInt8} (hS:S0.length≤3000000):∀ (d i:Nat),i+d=b.l→RunsR PG (ntOf PG f_r3_created) (loopAt PG f_r3_created 20) (lkT (nI i) (.str (S0++b.lksT i))) (b.cs b.k) (.exit 4) [(1, .box 0 0),(3, .str (S0++b.lksT b.l))] (b.cs b.k):=by
 have hk:=hb.k
 have hu:=hb.l
 intro d
 induction d with
 | zero =>
  intro i hi
  obtain rfl:i=b.l:=by omega
  refine RunsR.leave ?_ (fun h=>by cases h)
  have:=RunsP.chk (nu:=nuL (b.rNu b.l b.l (S0++b.lksT b.l) [] [] [] [] [] [] 0 (nI 0) (nI 0) [])) prog_ok (rNu_ok b rfl rfl) (T:=lkT (.atom 24) (.atom 26)) (s:=csA b.k) (T':=[(1, .box 0 0),(3, .atom 26)]) (s':=csA b.k) cr_lone20 (List.all_eq_true.1 cr_l0 b.k (by rw [List.mem_range];omega))
   ⟨⟨len_lk,rfl⟩,fCmp (a:=b.l) (b:=b.l) (c:=false) rfl rfl rfl (by simp only [intP];rw [decide_eq_false (by omega)]) (by decide) rfl,trivial⟩ rfl (by unfold Tb.rNu;rw [cs_fn,cs_sub b (by omega),cs_pure];rfl) (by unfold Tb.rNu;rw [cs_sub b (by omega),cs_pure];rfl)
  unfold Tb.rNu at this
  rw [cs_sub b (by omega)] at this
  exact this
 | succ d ih =>
  intro i hi
  have hl:=lksT_len hb i
  have hln:=nm_len (hb.ln i)
  have e4:IntKind.i64.wrap ((i:Int)+1)=(i:Int)+1:=w6_id (by omega) (by omega)
  have h:=ih (i+1) (by omega)
  have hx:=ix_cols hb (hb.lc i)
  obtain ⟨S,hSe⟩:∃ S,S=S0++b.lksT i:=⟨_,rfl⟩
  have hSl:S.length≤3000200:=by rw [hSe,List.length_append];omega
  have eS:S0++b.lksT (i+1)=S++b.lkT i:=by rw [hSe];simp [Tb.lksT]
  rw [← hSe]
  rw [eS] at h
  have hn1:(kw ", foreign key (").length=15:=by decide
  have hn2:(kw ") references ").length=13:=by decide
  refine RunsR.round ?_ h
  have hnu:NuOk (nuL (b.rNu i b.l S (S++kw ", foreign key (") (S++kw ", foreign key (" ++ cnm (b.lc i)) (S++kw ", foreign key (" ++ cnm (b.lc i)++kw ") references ") [] (S++b.lkT i) (cnm (b.lc i)) (b.lc i) (nI (b.ty (b.lc i))) (.bool (b.nn (b.lc i))) (b.ln i))):=rNu_ok b rfl rfl
  have hf:FactsOk PG (nuL (b.rNu i b.l S (S++kw ", foreign key (") (S++kw ", foreign key (" ++ cnm (b.lc i)) (S++kw ", foreign key (" ++ cnm (b.lc i)++kw ") references ") [] (S++b.lkT i) (cnm (b.lc i)) (b.lc i) (nI (b.ty (b.lc i))) (.bool (b.nn (b.lc i))) (b.ln i))) crK:=by
   unfold crK
   have e:S++kw ", foreign key (" ++ cnm (b.lc i)++kw ") references " ++ b.ln i=S++b.lkT i:=by simp [Tb.lkT]
   exact FactsOk.append ⟨⟨len_lk,rfl⟩,fCmp (a:=i) (b:=b.l) (c:=true) rfl rfl rfl (by simp only [intP];rw [decide_eq_true (by omega)]) (by decide) rfl,trivial⟩ ⟨⟨ix_lk (by omega),rfl⟩,⟨hx,rfl⟩,
    fStrAdd (l:=S) (m:=kw ", foreign key (") rfl rfl (by omega) rfl rfl,fStrAdd (l:=S++kw ", foreign key (") (m:=cnm (b.lc i)) rfl rfl (by rw [List.length_append,show (cnm (b.lc i)).length=1 from rfl];omega) rfl rfl,
    fStrAdd (l:=S++kw ", foreign key (" ++ cnm (b.lc i)) (m:=kw ") references ") rfl rfl (by rw [List.length_append,List.length_append,show (cnm (b.lc i)).length=1 from rfl];omega) rfl rfl,
    fStrAdd (l:=S++kw ", foreign key (" ++ cnm (b.lc i)++kw ") references ") (m:=b.ln i) rfl rfl (by rw [List.length_append,List.length_append,List.length_append,show (cnm (b.lc i)).length=1 from rfl];omega) (by rw [e];rfl) rfl,fInt (a:=i) (b:=1) rfl rfl rfl (by simp only [intP];rw [e4]) (by decide) rfl,trivial⟩
  have:=RunsP.chk prog_ok hnu (T:=lkT (.atom 24) (.atom 26)) (s:=csA b.k) (T':=lkT (.atom 32) (.atom 31)) (s':=csA b.k) cr_lone20 (List.all_eq_true.1 cr_l1 b.k (by rw [List.mem_range];omega)) hf rfl (by unfold Tb.rNu;rw [cs_fn,cs_sub b (by omega),cs_pure];rfl) (by unfold Tb.rNu;rw [cs_sub b (by omega),cs_pure];rfl)
  unfold Tb.rNu at this
  rw [cs_sub b (by omega)] at this
  exact this
end
end Go.Proofs.YtdlkibeljkapeaaGreatDoor.Den
namespace Go.Proofs.YtdlkibeljkapeaaGreatDoor.Den
open Go Go.RowKit
section
variable (b:Tb)
def Tb.hd:List UInt8:=kw "create table " ++ b.nm++kw " ("
def Tb.md:List UInt8:=b.hd++b.colsT b.k++kw "primary key (" ++ cnm b.key++kw ")"
def Tb.ckT:List UInt8:=match b.ck with|none=>[]|some e=>kw ", check (" ++ (e.txt++kw ")")
def Tb.crT:List UInt8:=b.md++b.uqsT b.u++b.ckT++b.lksT b.l++kw ")"
def Tb.mNu:List PV:=b.base++[nI 0,nI 0,nI 0,nI 0,nI 0,nI 0,nI 0,nI 0,nI 0, .str (cnm b.key),nI 0,nI (b.ty b.key), .bool (b.nn b.key),nI 0,nI 0, .str (kw "create table " ++ b.nm), .str b.hd, .str (b.hd++b.colsT b.k), .str (b.hd++b.colsT b.k++kw "primary key ("), .str (b.hd++b.colsT b.k++kw "primary key (" ++ cnm b.key), .str b.md,
 .str (b.md++b.uqsT b.u), .str (b.md++b.uqsT b.u++b.ckT), .str (b.md++b.uqsT b.u++b.ckT++b.lksT b.l), .str b.crT, .str (b.md++b.uqsT b.u++kw ", check ("), .str b.e.txt, .str (b.md++b.uqsT b.u++kw ", check (" ++ b.e.txt)]
theorem mNu_ok:NuOk (nuL b.mNu):=by
 refine nuL_okB ?_
 unfold Tb.mNu
 rw [List.all_append,base_good]
 rfl
end
theorem e7_k:∀ e:Xp,e.wf→∃ k:Int,e.e7.k=nI k∧k≠0
 | .lit _ _,_=>⟨1,rfl,by decide⟩
 | .col _,_=>⟨2,rfl,by decide⟩
 | .neg _,_=>⟨4,rfl,by decide⟩
 | .not _,_=>⟨3,rfl,by decide⟩
 | .isn _,_=>⟨5,rfl,by decide⟩
 | .op i a b,h=>by
  have:∀ i,i < 9→(opsL.getD i (0, "")).1≠0:=by decide
  exact ⟨_,rfl,this i h.1⟩
theorem ckT_len {b:Tb} (hb:b.Wf):b.ckT.length≤26000:=by
 unfold Tb.ckT
 cases h:b.ck with
 | none=>simp
 | some e =>
  have:=(hb.ck e h).len
  have h1:(kw ", check (").length=9:=by decide
  have h2:(kw ")").length=1:=by decide
  simp only [List.length_append,h1,h2]
  omega
set_option maxRecDepth 40000 in
theorem created_ev {b : Tb} (hb : b.Wf) : Ev PG f_r3_created [.agg b.val] (.str b.crT) := by
  have hk := hb.k
  have hnm := nm_len hb.nm
  have l1 : (kw "create table ").length = 13 := by decide
  have l2 : (kw " (").length = 2 := by decide
  have l3 : (kw "primary key (").length = 13 := by decide
  have l4 : (kw ")").length = 1 := by decide
  have l5 : (kw ", check (").length = 9 := by decide
  have hhd : b.hd.length ≤ 100 := by unfold Tb.hd; rw [List.length_append, List.length_append, l1, l2]; omega
  have hcl := colsT_len hb b.k
  have hul := uqsT_len hb b.u
  have hll := lksT_len hb b.l
  have hu := hb.u
  have hl := hb.l
  have hmd : b.md.length ≤ 300 := by
    unfold Tb.md
    simp only [List.length_append, l3, l4, show (cnm b.key).length = 1 from rfl]; omega
  have hck := ckT_len hb
  have hx := ix_cols hb hb.key
  have hL1 := cols_loop hb (S0 := b.hd) (by omega) b.k 0 (by omega)
  have hL2 := uqs_loop hb (S0 := b.md) (by omega) b.u 0 (by omega)
  have hL3 := lks_loop hb (S0 := b.md ++ b.uqsT b.u ++ b.ckT) (by simp only [List.length_append]; omega) b.l 0 (by omega)
  have e0 : b.colsT 0 = [] := rfl
  have e1 : b.uqsT 0 = [] := rfl
  have e2 : b.lksT 0 = [] := rfl
  rw [e0, List.append_nil] at hL1
  rw [e1, List.append_nil] at hL2
  rw [e2, List.append_nil] at hL3
  have hc0 : (csA 0).map (subRes (nuL b.mNu)) = b.cs 0 := cs_sub b (by omega)
  have hck' : (csA b.k).map (subRes (nuL b.mNu)) = b.cs b.k := cs_sub b (by omega)
  have hlen0 : (csA 0).length ≤ (csA b.k).length := by simp [csA, cbA]
  have hA : FactsOk PG (nuL b.mNu) [sA (.str (kw "create table ")) (.atom 0) (.atom 39), sA (.atom 39) (.str (kw " (")) (.atom 40), .loop f_r3_created 5 (crT (nI 0) (.atom 40)) (csA 0) (.exit 0) [(1, .box 0 0), (3, .atom 41)] (csA b.k),
     sA (.atom 41) (.str (kw "primary key (")) (.atom 42), .op (.ix ty_sl_api_Col) [.atom 1, .atom 2] (.ref [.atom 33, .atom 35, .atom 36]), sA (.atom 42) (.atom 33) (.atom 43), sA (.atom 43) (.str (kw ")")) (.atom 44),
     .loop f_r3_created 14 (uqT (nI 0) (.atom 44)) (csA b.k) (.exit 2) [(1, .box 0 0), (3, .atom 45)] (csA b.k)] := by
    refine ⟨fStrAdd (l := kw "create table ") (m := b.nm) rfl rfl (by omega) rfl rfl, fStrAdd (l := kw "create table " ++ b.nm) (m := kw " (") rfl rfl (by rw [List.length_append]; omega) rfl rfl, ?_,
      fStrAdd (l := b.hd ++ b.colsT b.k) (m := kw "primary key (") rfl rfl (by rw [List.length_append]; omega) rfl rfl, ⟨hx, rfl⟩, fStrAdd (l := b.hd ++ b.colsT b.k ++ kw "primary key (") (m := cnm b.key) rfl rfl (by simp only [List.length_append, show (cnm b.key).length = 1 from rfl]; omega) rfl rfl,
      fStrAdd (l := b.hd ++ b.colsT b.k ++ kw "primary key (" ++ cnm b.key) (m := kw ")") rfl rfl (by simp only [List.length_append, show (cnm b.key).length = 1 from rfl]; omega) rfl rfl, ?_, trivial⟩
    · refine fLoopOk cr_lone5 hlen0 ?_ (by rw [cs_fn]; rfl)
      rw [hc0, hck']
      exact hL1
    · refine fLoopOk cr_lone14 (Nat.le_refl _) ?_ (by rw [cs_fn]; rfl)
      rw [hck']
      exact hL2
  have hZ : ∀ c, nuL b.mNu c = .str (b.md ++ b.uqsT b.u ++ b.ckT) → FactsOk PG (nuL b.mNu) [.loop f_r3_created 20 (lkT (nI 0) (.atom c)) (csA b.k) (.exit 4) [(1, .box 0 0), (3, .atom 47)] (csA b.k), sA (.atom 47) (.str (kw ")")) (.atom 48)] := fun c hc => by
    refine ⟨?_, fStrAdd (l := b.md ++ b.uqsT b.u ++ b.ckT ++ b.lksT b.l) (m := kw ")") rfl rfl (by simp only [List.length_append]; omega) rfl rfl, trivial⟩
    refine fLoopOk cr_lone20 (Nat.le_refl _) ?_ (by rw [cs_fn]; rfl)
    rw [hck']
    have : subT (nuL b.mNu) (lkT (nI 0) (.atom c)) = lkT (nI 0) (.str (b.md ++ b.uqsT b.u ++ b.ckT)) := by
      show [(1, PV.box 0 0), (3, nuL b.mNu c), (9, nI 0)] = _
      rw [hc]; rfl
    rw [this]
    exact hL3
  have hT : subD (nuL b.mNu) (.agg tcA) = .agg b.val := rfl
  have hargs : ([PV.agg tcA].all fun p => argB (nuL b.mNu) p && p.shut) = true := by
    have hp := val_pure b
    show (((subD (nuL b.mNu) (.agg tcA)).pure && _) && _ && true) = true
    rw [hT]
    show ((PV.pureL b.val && true) && true && true) = true
    rw [hp]; rfl
  cases hc : b.ck with
  | none =>
    have hckT : b.ckT = [] := by unfold Tb.ckT; rw [hc]
    refine Ev.facts (args := [.agg tcA]) (r := .atom 48) prog_ok (mNu_ok b) (okR_eq (bl_all (List.all_eq_true.1 crt_k b.k (by rw [List.mem_range]; omega)) false)) ?_ hargs rfl
    unfold crF
    refine FactsOk.append (FactsOk.append hA ⟨?_, trivial⟩) (hZ 45 (by rw [hckT, List.append_nil]; rfl))
    have h4 : nuL b.mNu 4 = nI 0 := by show (wX b.ck).k = _; rw [hc]; rfl
    exact fCmp (a := 0) (b := 0) (c := false) h4 rfl rfl rfl (by decide) rfl
  | some e =>
    have he := hb.ck e hc
    have hel := he.len
    have hee : b.e = e := by unfold Tb.e; rw [hc]; rfl
    have hckT : b.ckT = kw ", check (" ++ (e.txt ++ kw ")") := by unfold Tb.ckT; rw [hc]
    have hpr := pr_ev e he.wf (by omega)
    obtain ⟨kk, hkk, hne⟩ := e7_k e he.wf
    refine Ev.facts (args := [.agg tcA]) (r := .atom 48) prog_ok (mNu_ok b) (okR_eq (bl_all (List.all_eq_true.1 crt_k b.k (by rw [List.mem_range]; omega)) true)) ?_ hargs rfl
    unfold crF
    refine FactsOk.append (FactsOk.append hA ⟨?_, fStrAdd (l := b.md ++ b.uqsT b.u) (m := kw ", check (") rfl rfl (by simp only [List.length_append]; omega) rfl rfl, ?_, fStrAdd (l := b.md ++ b.uqsT b.u ++ kw ", check (") (m := b.e.txt) rfl rfl (by rw [hee]; simp only [List.length_append]; omega) rfl rfl,
      fStrAdd (l := b.md ++ b.uqsT b.u ++ kw ", check (" ++ b.e.txt) (m := kw ")") rfl rfl (by rw [hee]; simp only [List.length_append]; omega) ?_ rfl, trivial⟩) (hZ 46 rfl)
    · have h4 : nuL b.mNu 4 = nI kk := by show (wX b.ck).k = _; rw [hc]; exact hkk
      exact fCmp (a := kk) (b := 0) (c := true) h4 rfl rfl (by rw [i64ne]; simp [hne]) (by decide) rfl
    · refine fprim (a := [e.e7.pv]) (b := .str e.txt) hpr.rx ?_ (by show nuL b.mNu 50 = _; show PV.str b.e.txt = _; rw [hee]) rfl
      show [PV.agg (wX b.ck).L] = _
      rw [hc]; rfl
    · show PV.str (b.md ++ b.uqsT b.u ++ b.ckT) = _
      rw [hckT, hee]; simp
end Go.Proofs.YtdlkibeljkapeaaGreatDoor.Den
namespace Go.Proofs.YtdlkibeljkapeaaGreatDoor.Den
open Go Go.RowKit
theorem pTxt_app:∀ (a b:List Pc),pTxt (a++b)=pTxt a++pTxt b
 | [],_=>rfl
 | p::a,b=>by simp only [List.cons_append,pTxt,pTxt_app a b,List.append_assoc]
section
variable (b:Tb)
def Tb.pt (cs:List CI):List UInt8:=pTxt (cs.flatMap ((b.env []).pcs b.t b.e))
theorem pt_app (x y:List CI):b.pt (x++y)=b.pt x++b.pt y:=by unfold Tb.pt;rw [List.flatMap_append,pTxt_app]
theorem pt_cons (c:CI) (y:List CI):b.pt (c::y)=pTxt ((b.env []).pcs b.t b.e c)++b.pt y:=by unfold Tb.pt;rw [List.flatMap_cons,pTxt_app]
theorem pt_nil:b.pt []=[]:=rfl
def Tb.colsF:Nat→Nat→List UInt8
 | 0,_=>[]
 | n+1,i=>b.colT i++Tb.colsF n (i+1)
theorem colsF_eq:∀ (n i:Nat),b.colsT i++b.colsF n i=b.colsT (i+n)
 | 0,i=>by simp [Tb.colsF]
 | n+1,i=>by
  have ih:=colsF_eq n (i+1)
  simp only [Tb.colsF]
  rw [← List.append_assoc,show b.colsT i++b.colT i=b.colsT (i+1) from rfl,ih,show i+1+n=i+(n+1) by omega]
def Tb.uqsF:Nat→Nat→List UInt8
 | 0,_=>[]
 | n+1,i=>b.uqT i++Tb.uqsF n (i+1)
theorem uqsF_eq:∀ (n i:Nat),b.uqsT i++b.uqsF n i=b.uqsT (i+n)
 | 0,i=>by simp [Tb.uqsF]
 | n+1,i=>by
  have ih:=uqsF_eq n (i+1)
  simp only [Tb.uqsF]
  rw [← List.append_assoc,show b.uqsT i++b.uqT i=b.uqsT (i+1) from rfl,ih,show i+1+n=i+(n+1) by omega]
def Tb.lksF:Nat→Nat→List UInt8
 | 0,_=>[]
 | n+1,i=>b.lkT i++Tb.lksF n (i+1)
theorem lksF_eq:∀ (n i:Nat),b.lksT i++b.lksF n i=b.lksT (i+n)
 | 0,i=>by simp [Tb.lksF]
 | n+1,i=>by
  have ih:=lksF_eq n (i+1)
  simp only [Tb.lksF]
  rw [← List.append_assoc,show b.lksT i++b.lkT i=b.lksT (i+1) from rfl,ih,show i+1+n=i+(n+1) by omega]
theorem pt_col (i:Nat) (X:List UInt8):pTxt ((b.env []).pcs b.t b.e (.col i))++([44]++([32]++X))=sp (!Nat.beq i 0)++(b.colT i++X):=by
 have h1:kw " not null" = [32]++(kw "not" ++ ([32]++kw "null")):=by decide
 have h2:kw ", " = [44,32]:=by decide
 show pTxt (colPc (!Nat.beq i 0) (cnm i) (b.t i) (b.nn i))++_=_
 unfold colPc nnP Tb.colT
 cases b.nn i with
 | true =>
  simp only [pTxt,List.cons_append,List.nil_append,It.txt,sp,h1,h2,List.append_assoc,List.append_nil]
 | false =>
  simp only [pTxt,List.cons_append,List.nil_append,It.txt,sp,h2,List.append_assoc,List.append_nil]
theorem pt_cols:∀ (n i:Nat) (X:List UInt8),b.pt (colI n i)++([32]++X)=(match n with|0=>[32]|_=>sp (!Nat.beq i 0))++(b.colsF n i++X)
 | 0,_,X=>rfl
 | n+1,i,X=>by
  have ih:=pt_cols n (i+1) X
  have hm:(match n with|0=>[32]|_=>sp (!Nat.beq (i+1) 0))=[32]:=by cases n<;>rfl
  rw [hm] at ih
  show b.pt (.col i::cmk 4::colI n (i+1))++_=sp (!Nat.beq i 0)++(b.colT i++b.colsF n (i+1)++X)
  rw [pt_cons,pt_cons,List.append_assoc,List.append_assoc,ih]
  have:=pt_col b i (b.colsF n (i+1)++X)
  rw [List.append_assoc,← this]
  rfl
theorem pt_uqs (k:Nat):∀ (n m:Nat),m+n≤2→b.pt (uqI k n m)=b.uqsF n m
 | 0,_,_=>rfl
 | n+1,m,h=>by
  have ih:=pt_uqs k n (m+1) (by omega)
  show b.pt (cmk 4::ckw "unique" :: .ow _ (10+m)::uqI k n (m+1))=b.uqT m++b.uqsF n (m+1)
  rw [pt_cons,pt_cons,pt_cons,ih]
  have h1:kw ", unique (" = [44]++([32]++(kw "unique" ++ ([32]++[40]))):=by decide
  have h2:kw ")" = [41]:=by decide
  have hR:b.R (10+m)=b.uq m:=by
   have:m=0∨m=1:=by omega
   rcases this with rfl|rfl<;>rfl
  unfold Tb.uqT
  rw [h1,h2,← hR]
  show ([44]++[])++(([32]++(kw "unique" ++ []))++(([32]++([40]++([]++(cnm (b.R (10+m))++([]++([41]++[]))))))++b.uqsF n (m+1)))=_
  simp
theorem pt_lks (k u:Nat) (ck:Bool):∀ (n m:Nat),m+n≤2→b.pt (lkI k u ck n m)=b.lksF n m
 | 0,_,_=>rfl
 | n+1,m,h=>by
  have ih:=pt_lks k u ck n (m+1) (by omega)
  show b.pt (cmk 4::ckw "foreign" :: ckw "key" :: .ow _ (12+m)::ckw "references" :: .tk (.nm (5+m))::lkI k u ck n (m+1))=b.lkT m++b.lksF n (m+1)
  rw [pt_cons,pt_cons,pt_cons,pt_cons,pt_cons,pt_cons,ih]
  have h1:kw ", foreign key (" = [44]++([32]++(kw "foreign" ++ ([32]++(kw "key" ++ ([32]++[40]))))):=by decide
  have h2:kw ") references " = [41]++([32]++(kw "references" ++ [32])):=by decide
  have hR:b.R (12+m)=b.lc m:=by
   have:m=0∨m=1:=by omega
   rcases this with rfl|rfl<;>rfl
  have hN:(b.env []).N (5+m)=b.ln m:=by
   have:m=0∨m=1:=by omega
   rcases this with rfl|rfl<;>rfl
  unfold Tb.lkT
  rw [h1,h2,← hR,← hN]
  show ([44]++[])++(([32]++(kw "foreign" ++ []))++(([32]++(kw "key" ++ []))++(([32]++([40]++([]++(cnm (b.R (12+m))++([]++([41]++[]))))))++(([32]++(kw "references" ++ []))++(([32]++((b.env []).N (5+m)++[]))++b.lksF n (m+1))))))=_
  simp
theorem pt_ck:b.pt (ckI b.ck.isSome)=b.ckT:=by
 unfold Tb.ckT
 cases h:b.ck with
 | none=>rfl
 | some e =>
  have h1:kw ", check (" = [44]++([32]++(kw "check" ++ ([32]++[40]))):=by decide
  have h2:kw ")" = [41]:=by decide
  have he:b.e=e:=by unfold Tb.e;rw [h];rfl
  show b.pt [cmk 4,ckw "check", cmk 2, .ex,cmk 3]=_
  rw [pt_cons,pt_cons,pt_cons,pt_cons,pt_cons,pt_nil,h1,h2,← he]
  show ([44]++[])++(([32]++(kw "check" ++ []))++(([32]++([40]++[]))++(([]++(b.e.txt++[]))++(([]++([41]++[]))++[]))))=_
  simp
end
theorem crT_eq {b:Tb} (hb:b.Wf):pTxt b.pcs=b.crT:=by
 have h0:=hb.k
 have hu:=hb.u
 have hl:=hb.l
 show b.pt (creI b.k b.u b.ck.isSome b.l)=_
 unfold creI
 rw [pt_app,pt_app,pt_app,pt_app,pt_app,pt_app,pt_uqs b _ _ _ (by omega),pt_lks b _ _ _ _ _ (by omega),pt_ck]
 have e1:b.pt [ckw "create", ckw "table", .tk (.nm 2),cmk 2]=kw "create table " ++ b.nm++kw " (" := by
  have h1:kw "create table " = kw "create" ++ ([32]++(kw "table" ++ [32])):=by decide
  have h2:kw " (" = [32]++[40]:=by decide
  rw [pt_cons,pt_cons,pt_cons,pt_cons,pt_nil,h1,h2]
  show ([]++(kw "create" ++ []))++(([32]++(kw "table" ++ []))++(([32]++(b.nm++[]))++(([32]++([40]++[]))++[])))=_
  simp
 have e2:∀ X,b.pt [ckw "primary", ckw "key", .ow (tabX b.k (nI 0) .nilslice E7.zero.L .nilslice) 3]++X=[32]++(kw "primary key (" ++ cnm b.key++kw ")" ++ X):=fun X=>by
  have h1:kw "primary key (" = kw "primary" ++ ([32]++(kw "key" ++ ([32]++[40]))):=by decide
  have h2:kw ")" = [41]:=by decide
  rw [pt_cons,pt_cons,pt_cons,pt_nil,h1,h2]
  show (([32]++(kw "primary" ++ []))++(([32]++(kw "key" ++ []))++(([32]++([40]++([]++(cnm b.key++([]++([41]++[]))))))++[])))++X=_
  simp
 have e3:b.pt [cmk 3]=kw ")" := by
  have h2:kw ")" = [41]:=by decide
  rw [h2];rfl
 rw [e1,e2,pt_cols,e3]
 have hm:(match b.k with|0=>[32]|_=>sp (!Nat.beq 0 0))=[]:=by
  obtain ⟨m,hm⟩:∃ m,b.k=m+1:=⟨b.k - 1,by omega⟩
  rw [hm];rfl
 rw [hm]
 have c1:=colsF_eq b b.k 0
 have c2:=uqsF_eq b b.u 0
 have c3:=lksF_eq b b.l 0
 rw [show b.colsT 0=[] from rfl,List.nil_append,Nat.zero_add] at c1
 rw [show b.uqsT 0=[] from rfl,List.nil_append,Nat.zero_add] at c2
 rw [show b.lksT 0=[] from rfl,List.nil_append,Nat.zero_add] at c3
 rw [c1,c2,c3]
 unfold Tb.crT Tb.md Tb.hd
 simp
end Go.Proofs.YtdlkibeljkapeaaGreatDoor.Den
namespace Go.Proofs.YtdlkibeljkapeaaGreatDoor.Den
open Go Go.RowKit
noncomputable abbrev txK (fs:List Fact) (a r:PV):Bool:=okR r (callF PG (fOrc noOwn fs) 20 f_r3_Text [a] [])
theorem ty_creX:txK [.prim f_r3_created [.agg tcA] (.atom 12)] (stmtP (nI 1) tcA (.str []) (.str []) (.str []) .nilslice E7.zero.L E7.zero.L) (.atom 12)=true:=by kernel_rfl
theorem ty_dropX:txK [sA (.str (kw "drop table ")) (.atom 2) (.atom 10)] (stmtP (nI 2) tableZ (.atom 2) (.str []) (.str []) .nilslice E7.zero.L E7.zero.L) (.atom 10)=true:=by kernel_rfl
theorem ty_linkX:txK [sA (.str (kw "alter table ")) (.atom 2) (.atom 10),sA (.atom 10) (.str (kw " add foreign key (")) (.atom 11),sA (.atom 11) (.atom 3) (.atom 12),sA (.atom 12) (.str (kw ") references ")) (.atom 13),sA (.atom 13) (.atom 4) (.atom 14)] (stmtP (nI 3) tableZ (.atom 2) (.atom 3) (.atom 4) .nilslice E7.zero.L E7.zero.L) (.atom 14)=true:=by kernel_rfl
def twF (b:Bool):List Fact:=match b with|true=>[oI .neq (.atom 70) (nI 0) (.bool true), .prim f_r3_Expr [eA 70] (.atom 21),sA (.str (kw " where ")) (.atom 21) (.atom 22)]|false=>[]
def twP (b:Bool):PV:=match b with|true=>.atom 22|false=>.str []
theorem ty_updX:bl (fun b=>txK (twF b++[sA (.str (kw "update ")) (.atom 2) (.atom 10),sA (.atom 10) (.str (kw " set ")) (.atom 11),sA (.atom 11) (.atom 3) (.atom 12),sA (.atom 12) (.str (kw " = ")) (.atom 13), .prim f_r3_Expr [eA 60] (.atom 20),sA (.atom 13) (.atom 20) (.atom 14),sA (.atom 14) (twP b) (.atom 15)]) (stmtP (nI 5) tableZ (.atom 2) (.atom 3) (.str []) .nilslice (eaL 60) (wE b)) (.atom 15))=true:=by kernel_rfl
def tqW (k:Nat):String:=match k with|0 => "delete from " | 1 => "select * from " | _ => "select count(*) from "
theorem ty_qX:((List.range 3).all fun k=>bl (fun b=>txK (twF b++[sA (.str (kw (tqW k))) (.atom 2) (.atom 10),sA (.atom 10) (twP b) (.atom 11)]) (stmtP (nI (6+k:Nat)) tableZ (.atom 2) (.str []) (.str []) .nilslice E7.zero.L (wE b)) (.atom 11)))=true:=by kernel_rfl
def tiF (n:Nat):List Fact:=[sA (.str (kw "insert into ")) (.atom 2) (.atom 10),sA (.atom 10) (.str (kw " values (")) (.atom 11),sA (.atom (50+(n - 1))) (.str (kw ")")) (.atom 70),sA (.atom 11) (.atom 40) (.atom 50)] ++
 ((List.range n).map (fun i=>.prim f_r3_Lit [v4A (160+4*i)] (.atom (40+i)))++(List.range (n - 1)).flatMap (fun i=>[sA (.atom (50+i)) (.str (kw ", ")) (.atom (60+i)),sA (.atom (60+i)) (.atom (41+i)) (.atom (51+i))]))
theorem ty_insX:((List.range 5).all fun n=>txK (tiF (n+1)) (stmtP (nI 4) tableZ (.atom 2) (.str []) (.str []) (.slice 4 ((List.range (n+1)).map fun m=>v4A (160+4*m))) E7.zero.L E7.zero.L) (.atom 70))=true:=by kernel_rfl
def tyNu (nm col dst:List UInt8) (a b c d e f:List UInt8) (te tw:List UInt8) (x w:E7):List PV :=
 [.str [],nI 0, .str nm, .str col, .str dst,nI 0,nI 0,nI 0,nI 0,nI 0, .str a, .str b, .str c, .str d, .str e, .str f,nI 0,nI 0,nI 0,nI 0, .str te, .str tw, .str (kw " where " ++ tw)]++(List.replicate 37 (nI 0)++(x.L++([nI 0,nI 0,nI 0]++w.L)))
theorem tyNu_ok {nm col dst a b c d e f te tw:List UInt8} {x w:E7} (hx:x.ok=true) (hw:w.ok=true):NuOk (nuL (tyNu nm col dst a b c d e f te tw x w)):=by
 refine nuL_okB ?_
 unfold tyNu
 rw [List.all_append,List.all_append,List.all_append,List.all_append,show (x.L.all fun p=>p.clean&&p.pure)=true from hx,show (w.L.all fun p=>p.clean&&p.pure)=true from hw]
 rfl
def whT (w:Option Xp):List UInt8:=match w with|none=>[]|some e=>kw " where " ++ e.txt
def wtx (w:Option Xp):List UInt8:=match w with|some e=>e.txt|none=>[]
theorem whT_eq (w:Option Xp):pTxt (whP w)=whT w:=by
 cases w with
 | none=>rfl
 | some e =>
  have h:kw " where " = [32]++(kw "where" ++ [32]):=by decide
  show [32]++(kw "where" ++ ([32]++(e.txt++[])))=kw " where " ++ e.txt
  rw [h];simp
theorem whT_len {w:Option Xp} (h:WhOk w):(whT w).length≤25700:=by
 cases w with
 | none=>simp [whT]
 | some e =>
  have:=(h e rfl).len
  have h1:(kw " where ").length=7:=by decide
  simp only [whT,List.length_append,h1]
  omega
theorem stT_args {k:Int} {T:List PV} {nm col dst:List UInt8} {row:PV} {e w:E7} {nu:Nat→PV} {p:PV} (h:subD nu p=stP k T nm col dst row e w) (hc:(stP k T nm col dst row e w).pure=true) (ho:oneB nu p=true) (hs:p.shut=true):([p].all fun p=>argB nu p&&p.shut)=true:=by
 simp only [List.all_cons,argB,h,hc,ho,hs];rfl
theorem wfact {w:Option Xp} (hw:WhOk w) {nm col dst a b c d e f te:List UInt8} {x:E7}:FactsOk PG (nuL (tyNu nm col dst a b c d e f te (wtx w) x (wX w))) (twF w.isSome):=by
 cases w with
 | none=>trivial
 | some g =>
  have hg:=hw g rfl
  have hl:=hg.len
  have hpr:=pr_ev g hg.wf (by omega)
  obtain ⟨kk,hkk,hne⟩:=e7_k g hg.wf
  have h1:(kw " where ").length=7:=by decide
  exact ⟨fCmp (a:=kk) (b:=0) (c:=true) hkk rfl rfl (by rw [i64ne];simp [hne]) (by decide) rfl,fprim hpr.rx rfl rfl rfl,fStrAdd (l:=kw " where ") (m:=g.txt) rfl rfl (by omega) rfl rfl,trivial⟩
theorem text_q {nm:List UInt8} (hn:NmOk nm) {w:Option Xp} (hw:WhOk w) {k:Nat} (hk:k < 3):Ev PG f_r3_Text [stP (6+k:Nat) tableZ nm [] [] .nilslice E7.zero (wX w)] (.str (kw (tqW k)++nm++whT w)):=by
 have hl:=whT_len hw
 have hnl:=nm_len hn
 have hkl:(kw (tqW k)).length≤30:=by
  have:k=0∨k=1∨k=2:=by omega
  rcases this with rfl|rfl|rfl<;>decide
 have hp:=stP_pure (k:=(6+k:Nat)) (nm:=nm) (col:=[]) (dst:=[]) (e:=E7.zero) rfl (wX_ok w)
 have hT:subD (nuL (tyNu nm [] [] (kw (tqW k)++nm) (kw (tqW k)++nm++whT w) [] [] [] [] [] (wtx w) E7.zero (wX w))) (stmtP (nI (6+k:Nat)) tableZ (.atom 2) (.str []) (.str []) .nilslice E7.zero.L (wE w.isSome))=stP (6+k:Nat) tableZ nm [] [] .nilslice E7.zero (wX w):=by
  cases w<;>rfl
 have:=Ev.facts (nu:=nuL (tyNu nm [] [] (kw (tqW k)++nm) (kw (tqW k)++nm++whT w) [] [] [] [] [] (wtx w) E7.zero (wX w))) (args:=[stmtP (nI (6+k:Nat)) tableZ (.atom 2) (.str []) (.str []) .nilslice E7.zero.L (wE w.isSome)]) (r:=.atom 11) prog_ok (tyNu_ok rfl (wX_ok w)) (okR_eq (bl_all (List.all_eq_true.1 ty_qX k (by rw [List.mem_range];exact hk)) w.isSome))
  (FactsOk.append (wfact hw) ⟨fStrAdd (l:=kw (tqW k)) (m:=nm) rfl rfl (by omega) rfl rfl,fStrAdd (l:=kw (tqW k)++nm) (m:=whT w) rfl (by cases w<;>rfl) (by rw [List.length_append];omega) rfl rfl,trivial⟩)
  (stT_args hT hp (by cases w<;>rfl) (by cases w<;>rfl)) rfl
 simp only [List.map_cons,List.map_nil,hT] at this
 exact this
theorem text_upd {nm col:List UInt8} (hn:NmOk nm) (hc:NmOk col) {e:Xp} (he:XpOk e) {w:Option Xp} (hw:WhOk w):Ev PG f_r3_Text [stP 5 tableZ nm col [] .nilslice e.e7 (wX w)] (.str (kw "update " ++ nm++kw " set " ++ col++kw " = " ++ e.txt++whT w)):=by
 have hl:=whT_len hw
 have hnl:=nm_len hn
 have hcl:=nm_len hc
 have hel:=he.len
 have hpr:=pr_ev e he.wf (by omega)
 have k1:(kw "update ").length=7:=by decide
 have k2:(kw " set ").length=5:=by decide
 have k3:(kw " = ").length=3:=by decide
 have hp:=stP_pure (k:=5) (nm:=nm) (col:=col) (dst:=[]) (e:=e.e7) (e7_ok e) (wX_ok w)
 have hT:subD (nuL (tyNu nm col [] (kw "update " ++ nm) (kw "update " ++ nm++kw " set ") (kw "update " ++ nm++kw " set " ++ col) (kw "update " ++ nm++kw " set " ++ col++kw " = ") (kw "update " ++ nm++kw " set " ++ col++kw " = " ++ e.txt) (kw "update " ++ nm++kw " set " ++ col++kw " = " ++ e.txt++whT w) e.txt (wtx w) e.e7 (wX w))) (stmtP (nI 5) tableZ (.atom 2) (.atom 3) (.str []) .nilslice (eaL 60) (wE w.isSome))=stP 5 tableZ nm col [] .nilslice e.e7 (wX w):=by
  cases w<;>rfl
 have:=Ev.facts (args:=[stmtP (nI 5) tableZ (.atom 2) (.atom 3) (.str []) .nilslice (eaL 60) (wE w.isSome)]) (r:=.atom 15) prog_ok (tyNu_ok (e7_ok e) (wX_ok w)) (okR_eq (bl_all ty_updX w.isSome))
  (FactsOk.append (wfact hw) ⟨fStrAdd (l:=kw "update ") (m:=nm) rfl rfl (by omega) rfl rfl,fStrAdd (l:=kw "update " ++ nm) (m:=kw " set ") rfl rfl (by simp only [List.length_append];omega) rfl rfl,fStrAdd (l:=kw "update " ++ nm++kw " set ") (m:=col) rfl rfl (by simp only [List.length_append];omega) rfl rfl,
   fStrAdd (l:=kw "update " ++ nm++kw " set " ++ col) (m:=kw " = ") rfl rfl (by simp only [List.length_append];omega) rfl rfl,fprim hpr.rx rfl rfl rfl,fStrAdd (l:=kw "update " ++ nm++kw " set " ++ col++kw " = ") (m:=e.txt) rfl rfl (by simp only [List.length_append];omega) rfl rfl,
   fStrAdd (l:=kw "update " ++ nm++kw " set " ++ col++kw " = " ++ e.txt) (m:=whT w) rfl (by cases w<;>rfl) (by simp only [List.length_append];omega) rfl rfl,trivial⟩)
  (stT_args hT hp (by cases w<;>rfl) (by cases w<;>rfl)) rfl
 simp only [List.map_cons,List.map_nil,hT] at this
 exact this
end Go.Proofs.YtdlkibeljkapeaaGreatDoor.Den
namespace Go.Proofs.YtdlkibeljkapeaaGreatDoor.Den
open Go Go.RowKit
theorem text_drop {nm:List UInt8} (hn:NmOk nm):Ev PG f_r3_Text [stP 2 tableZ nm [] [] .nilslice E7.zero E7.zero] (.str (kw "drop table " ++ nm)):=by
 have hnl:=nm_len hn
 have k1:(kw "drop table ").length=11:=by decide
 exact Ev.facts (nu:=nuL (tyNu nm [] [] (kw "drop table " ++ nm) [] [] [] [] [] [] [] E7.zero E7.zero)) (args:=[stmtP (nI 2) tableZ (.atom 2) (.str []) (.str []) .nilslice E7.zero.L E7.zero.L]) (r:=.atom 10) prog_ok (tyNu_ok rfl rfl) (okR_eq ty_dropX)
  ⟨fStrAdd (l:=kw "drop table ") (m:=nm) rfl rfl (by omega) rfl rfl,trivial⟩ rfl rfl
theorem text_link {nm col dst:List UInt8} (hn:NmOk nm) (hc:NmOk col) (hd:NmOk dst):Ev PG f_r3_Text [stP 3 tableZ nm col dst .nilslice E7.zero E7.zero] (.str (kw "alter table " ++ nm++kw " add foreign key (" ++ col++kw ") references " ++ dst)):=by
 have h1:=nm_len hn
 have h2:=nm_len hc
 have h3:=nm_len hd
 have k1:(kw "alter table ").length=12:=by decide
 have k2:(kw " add foreign key (").length=18:=by decide
 have k3:(kw ") references ").length=13:=by decide
 exact Ev.facts (nu:=nuL (tyNu nm col dst (kw "alter table " ++ nm) (kw "alter table " ++ nm++kw " add foreign key (") (kw "alter table " ++ nm++kw " add foreign key (" ++ col) (kw "alter table " ++ nm++kw " add foreign key (" ++ col++kw ") references ") (kw "alter table " ++ nm++kw " add foreign key (" ++ col++kw ") references " ++ dst) [] [] [] E7.zero E7.zero))
  (args:=[stmtP (nI 3) tableZ (.atom 2) (.atom 3) (.atom 4) .nilslice E7.zero.L E7.zero.L]) (r:=.atom 14) prog_ok (tyNu_ok rfl rfl) (okR_eq ty_linkX)
  ⟨fStrAdd (l:=kw "alter table ") (m:=nm) rfl rfl (by omega) rfl rfl,fStrAdd (l:=kw "alter table " ++ nm) (m:=kw " add foreign key (") rfl rfl (by simp only [List.length_append];omega) rfl rfl,fStrAdd (l:=kw "alter table " ++ nm++kw " add foreign key (") (m:=col) rfl rfl (by simp only [List.length_append];omega) rfl rfl,
   fStrAdd (l:=kw "alter table " ++ nm++kw " add foreign key (" ++ col) (m:=kw ") references ") rfl rfl (by simp only [List.length_append];omega) rfl rfl,fStrAdd (l:=kw "alter table " ++ nm++kw " add foreign key (" ++ col++kw ") references ") (m:=dst) rfl rfl (by simp only [List.length_append];omega) rfl rfl,trivial⟩ rfl rfl
def valsT:List (V4 × List UInt8)→List UInt8
 | []=>[]
 | [v]=>v.2
 | v::w::vs=>v.2++(kw ", " ++ valsT (w::vs))
theorem valsT_eq:∀ (vs:List (V4 × List UInt8)) (b:Bool),vs≠[]→pTxt (valsP b vs)=sp b++valsT vs
 | [],_,h=>absurd rfl h
 | [v],b,_=>by simp [valsP,pTxt,valsT,It.txt]
 | v::w::vs,b,_=>by
  have ih:=valsT_eq (w::vs) true (by simp)
  have h:kw ", " = [44]++[32]:=by decide
  simp only [valsP,pTxt,valsT,ih,h]
  show sp b++(v.2++([]++([44]++([32]++valsT (w::vs)))))=_
  simp
def accT (S:List UInt8) (vs:List (V4 × List UInt8)):Nat→List UInt8
 | 0=>S++(vs.getD 0 (v0,[])).2
 | i+1=>accT S vs i++kw ", " ++ (vs.getD (i+1) (v0,[])).2
theorem accT_eq (S:List UInt8):∀ (vs:List (V4 × List UInt8)) (n:Nat),vs.length=n+1→accT S vs n=S++valsT vs
 | [],_,h=>by simp at h
 | [v],n,h=>by
  obtain rfl:n=0:=by simpa using h.symm
  rfl
 | v::w::vs,n,h=>by
  obtain ⟨m,rfl⟩:∃ m,n=m+1:=⟨n - 1,by simp at h;omega⟩
  have ih:=accT_eq (S++v.2++kw ", ") (w::vs) m (by simpa using h)
  have hs:∀ i,accT S (v::w::vs) (i+1)=accT (S++v.2++kw ", ") (w::vs) i:=fun i=>by
   induction i with
   | zero=>simp [accT]
   | succ i ihh =>
    show accT S (v::w::vs) (i+1)++kw ", " ++ _=accT (S++v.2++kw ", ") (w::vs) i++kw ", " ++ _
    rw [ihh]
    rfl
  rw [hs,ih]
  simp [valsT]
theorem accT_len (S:List UInt8) (vs:List (V4 × List UInt8)) (h:∀ v∈vs,v.2.length≤200):∀ i,(accT S vs i).length≤S.length+202*(i+1)
 | 0=>by
  have:(vs.getD 0 (v0,[])).2.length≤200:=by
   rw [List.getD_eq_getElem?_getD]
   cases hq:vs[0]? with
   | none=>simp
   | some v=>exact h v (List.mem_of_getElem? hq)
  simp only [accT,List.length_append]
  omega
 | i+1=>by
  have ih:=accT_len S vs h i
  have:(vs.getD (i+1) (v0,[])).2.length≤200:=by
   rw [List.getD_eq_getElem?_getD]
   cases hq:vs[i+1]? with
   | none=>simp
   | some v=>exact h v (List.mem_of_getElem? hq)
  have hk:(kw ", ").length=2:=by decide
  simp only [accT,List.length_append,hk]
  omega
def tiNu (nm:List UInt8) (S:List UInt8) (L A B:Nat→List UInt8) (Z:List UInt8) (V:Nat→V4):List PV :=
 [.str [],nI 0, .str nm,nI 0,nI 0,nI 0,nI 0,nI 0,nI 0,nI 0, .str (kw "insert into " ++ nm), .str S]++(List.replicate 28 (nI 0)++([.str (L 0), .str (L 1), .str (L 2), .str (L 3), .str (L 4),nI 0,nI 0,nI 0,nI 0,nI 0, .str (A 0), .str (A 1), .str (A 2), .str (A 3), .str (A 4),nI 0,nI 0,nI 0,nI 0,nI 0,
  .str (B 0), .str (B 1), .str (B 2), .str (B 3),nI 0,nI 0,nI 0,nI 0,nI 0,nI 0, .str Z]++(List.replicate 89 (nI 0)++(v4L (V 0)++(v4L (V 1)++(v4L (V 2)++(v4L (V 3)++v4L (V 4))))))))
set_option maxRecDepth 40000 in
set_option maxHeartbeats 4000000 in
theorem text_ins {nm:List UInt8} (hn:NmOk nm) {vs:List (V4 × List UInt8)} (h0:vs≠[]) (h5:vs.length≤5) (hv:∀ v∈vs,LitOk v.1 v.2∧nobl v.2):Ev PG f_r3_Text [stP 4 tableZ nm [] [] (rowP vs) E7.zero E7.zero] (.str (kw "insert into " ++ nm++kw " values (" ++ valsT vs++kw ")")):=by
 have h1:=nm_len hn
 have k1:(kw "insert into ").length=12:=by decide
 have k2:(kw " values (").length=9:=by decide
 have k3:(kw ")").length=1:=by decide
 have k4:(kw ", ").length=2:=by decide
 have hl:1≤vs.length:=by cases vs with|nil=>exact absurd rfl h0|cons a l=>simp
 obtain ⟨n,hn5,hlen⟩:∃ n,n < 5∧vs.length=n+1:=⟨vs.length - 1,by omega,by omega⟩
 obtain ⟨S,hS⟩:∃ S,S=kw "insert into " ++ nm++kw " values (" := ⟨_,rfl⟩
 have hSl:S.length≤50:=by rw [hS];simp only [List.length_append];omega
 have hlv:∀ v∈vs,v.2.length≤200:=fun v h=>(hv v h).1.len
 have hal:=accT_len S vs hlv
 have hget:∀ i,i < n+1→LitOk (vs.getD i (v0,[])).1 (vs.getD i (v0,[])).2:=fun i hi=>by
  have:vs[i]? = some (vs.getD i (v0,[])):=by rw [List.getD_eq_getElem?_getD,List.getElem?_eq_getElem (by omega)];rfl
  exact (hv _ (List.mem_of_getElem? this)).1
 rw [← hS,← accT_eq S vs n hlen]
 have hk:=okR_eq (List.all_eq_true.1 ty_insX n (by rw [List.mem_range];exact hn5))
 have hnu:NuOk (nuL (tiNu nm S (fun i=>(vs.getD i (v0,[])).2) (accT S vs) (fun i=>accT S vs i++kw ", ") (accT S vs n++kw ")") (fun i=>(vs.getD i (v0,[])).1))):=nuL_okB rfl
 have hf:FactsOk PG (nuL (tiNu nm S (fun i=>(vs.getD i (v0,[])).2) (accT S vs) (fun i=>accT S vs i++kw ", ") (accT S vs n++kw ")") (fun i=>(vs.getD i (v0,[])).1))) (tiF (n+1)):=by
  unfold tiF
  have hn':n=0∨n=1∨n=2∨n=3∨n=4:=by omega
  have hl0:(vs.getD 0 (v0,[])).2.length≤200:=(hget 0 (by omega)).len
  refine FactsOk.append ⟨fStrAdd (l:=kw "insert into ") (m:=nm) rfl rfl (by omega) rfl rfl,fStrAdd (l:=kw "insert into " ++ nm) (m:=kw " values (") rfl rfl (by rw [List.length_append];omega) (by rw [← hS];rfl) rfl,?_,fStrAdd (l:=S) (m:=(vs.getD 0 (v0,[])).2) rfl rfl (by omega) rfl rfl,trivial⟩ (FactsOk.append (FactsOk.of ?_) (FactsOk.of ?_))
  ·have:=hal n
   rcases hn' with rfl|rfl|rfl|rfl|rfl<;>exact fStrAdd (l:=accT S vs _) (m:=kw ")") rfl rfl (by omega) rfl rfl
  ·intro f hf
   obtain ⟨i,hi,rfl⟩:=List.mem_map.1 hf
   rw [List.mem_range] at hi
   have hL:=(hget i hi).two
   have hi5:i=0∨i=1∨i=2∨i=3∨i=4:=by omega
   rcases hi5 with rfl|rfl|rfl|rfl|rfl<;>exact fprim hL rfl rfl rfl
  ·intro f hf
   obtain ⟨i,hi,hf⟩:=List.mem_flatMap.1 hf
   rw [List.mem_range] at hi
   have hL:=(hget (i+1) (by omega)).len
   have:=hal i
   have hi4:i=0∨i=1∨i=2∨i=3:=by omega
   simp only [List.mem_cons,List.not_mem_nil,or_false] at hf
   rcases hf with rfl|rfl
   ·rcases hi4 with rfl|rfl|rfl|rfl<;>exact fStrAdd (l:=accT S vs _) (m:=kw ", ") rfl rfl (by omega) rfl rfl
   ·rcases hi4 with rfl|rfl|rfl|rfl<;>exact fStrAdd (l:=accT S vs _++kw ", ") (m:=(vs.getD _ (v0,[])).2) rfl rfl (by rw [List.length_append];simp only [Nat.reduceAdd] at hL;omega) rfl rfl
 have hrow:rowP vs = .slice 4 ((List.range (n+1)).map fun m=>Den.vP (vs.getD m (v0,[])).1):=by
  unfold rowP
  congr 1
  refine List.ext_getElem? fun m=>?_
  rw [List.getElem?_map,List.getElem?_map]
  by_cases hm:m < n+1
  ·rw [List.getElem?_eq_getElem (by omega),List.getElem?_range hm]
   simp [List.getElem?_eq_getElem (show m < vs.length by omega)]
  ·rw [List.getElem?_eq_none (by omega),List.getElem?_eq_none (by simp;omega)]
   rfl
 rw [hrow]
 have hn':n=0∨n=1∨n=2∨n=3∨n=4:=by omega
 clear hrow
 rcases hn' with rfl|rfl|rfl|rfl|rfl
 all_goals exact Ev.facts (r:=.atom 70) prog_ok hnu hk hf rfl rfl
theorem text_cre {b:Tb} (hb:b.Wf):Ev PG f_r3_Text [stP 1 b.val [] [] [] .nilslice E7.zero E7.zero] (.str b.crT):=by
 have hT:subD (nuL (b.val++[.str b.crT])) (stmtP (nI 1) tcA (.str []) (.str []) (.str []) .nilslice E7.zero.L E7.zero.L)=stP 1 b.val [] [] [] .nilslice E7.zero E7.zero:=rfl
 have hnu:NuOk (nuL (b.val++[.str b.crT])):=nuL_okB (by rw [List.all_append,val_good];rfl)
 have:=Ev.facts (nu:=nuL (b.val++[.str b.crT])) (args:=[stmtP (nI 1) tcA (.str []) (.str []) (.str []) .nilslice E7.zero.L E7.zero.L]) (r:=.atom 12) prog_ok hnu (okR_eq ty_creX) ⟨fprim (created_ev hb) rfl rfl rfl,trivial⟩ (stT_args hT (stT_pure b) rfl rfl) rfl
 simp only [List.map_cons,List.map_nil,hT] at this
 exact this
theorem stext_ev {x:Sx} (hx:x.wf):Ev PG f_r3_Text [x.pv] (.str x.txt):=by
 match x,hx with
 | .cre b,hx =>
  show Ev PG _ _ (.str (pTxt b.pcs))
  rw [crT_eq hx]
  exact text_cre hx
 | .drop nm,hx =>
  have h:=text_drop hx
  have e:kw "drop table " = kw "drop" ++ ([32]++(kw "table" ++ [32])):=by decide
  rw [e] at h
  have e2:(Sx.drop nm).txt=kw "drop" ++ ([32]++(kw "table" ++ [32]))++nm:=by
   show []++(kw "drop" ++ ([32]++(kw "table" ++ ([32]++(nm++[])))))=_
   simp
  rw [e2];exact h
 | .link nm col dst,hx =>
  have h:=text_link hx.1 hx.2.1 hx.2.2
  have e:kw "alter table " = kw "alter" ++ ([32]++(kw "table" ++ [32])):=by decide
  have e1:kw " add foreign key (" = [32]++(kw "add" ++ ([32]++(kw "foreign" ++ ([32]++(kw "key" ++ ([32]++[40])))))):=by decide
  have e3:kw ") references " = [41]++([32]++(kw "references" ++ [32])):=by decide
  rw [e,e1,e3] at h
  have e2:(Sx.link nm col dst).txt=kw "alter" ++ ([32]++(kw "table" ++ [32]))++nm++([32]++(kw "add" ++ ([32]++(kw "foreign" ++ ([32]++(kw "key" ++ ([32]++[40])))))))++col++([41]++([32]++(kw "references" ++ [32])))++dst:=by
   show []++(kw "alter" ++ ([32]++(kw "table" ++ ([32]++(nm++([32]++(kw "add" ++ ([32]++(kw "foreign" ++ ([32]++(kw "key" ++ ([32]++([40]++([]++(col++([]++([41]++([32]++(kw "references" ++ ([32]++(dst++[])))))))))))))))))))))=_
   simp
  rw [e2];exact h
 | .ins nm vs,hx =>
  have h:=text_ins hx.1 hx.2.1 hx.2.2.1 hx.2.2.2
  have e:kw "insert into " = kw "insert" ++ ([32]++(kw "into" ++ [32])):=by decide
  have e1:kw " values (" = [32]++(kw "values" ++ ([32]++[40])):=by decide
  have e3:kw ")" = [41]:=by decide
  rw [e,e1,e3] at h
  have e2:(Sx.ins nm vs).txt=kw "insert" ++ ([32]++(kw "into" ++ [32]))++nm++([32]++(kw "values" ++ ([32]++[40])))++valsT vs++[41]:=by
   show pTxt ([(false,It.w (kw "insert")),(true, .w (kw "into")),(true, .w nm),(true, .w (kw "values")),(true, .m 2)]++(valsP false vs++[(false, .m 3)]))=_
   rw [pTxt_app,pTxt_app,valsT_eq vs false hx.2.1]
   show ([]++(kw "insert" ++ ([32]++(kw "into" ++ ([32]++(nm++([32]++(kw "values" ++ ([32]++([40]++[]))))))))))++(([]++valsT vs)++([]++([41]++[])))=_
   simp
  rw [e2];exact h
 | .upd nm col e w,hx =>
  have h:=text_upd hx.1 hx.2.1 hx.2.2.1 hx.2.2.2
  have e0:kw "update " = kw "update" ++ [32]:=by decide
  have e1:kw " set " = [32]++(kw "set" ++ [32]):=by decide
  have e3:kw " = " = [32]++([61]++[32]):=by decide
  rw [e0,e1,e3] at h
  have e2:(Sx.upd nm col e w).txt=kw "update" ++ [32]++nm++([32]++(kw "set" ++ [32]))++col++([32]++([61]++[32]))++e.txt++whT w:=by
   show pTxt ([(false,It.w (kw "update")),(true, .w nm),(true, .w (kw "set")),(true, .w col),(true, .m 6),(true, .x e)]++whP w)=_
   rw [pTxt_app,whT_eq]
   show ([]++(kw "update" ++ ([32]++(nm++([32]++(kw "set" ++ ([32]++(col++([32]++([61]++([32]++(e.txt++[]))))))))))))++whT w=_
   simp
  rw [e2];exact h
 | .del nm w,hx =>
  have h:=text_q hx.1 hx.2 (k:=0) (by decide)
  have e0:kw (tqW 0)=kw "delete" ++ ([32]++(kw "from" ++ [32])):=by decide
  rw [e0] at h
  have e2:(Sx.del nm w).txt=kw "delete" ++ ([32]++(kw "from" ++ [32]))++nm++whT w:=by
   show pTxt ([(false,It.w (kw "delete")),(true, .w (kw "from")),(true, .w nm)]++whP w)=_
   rw [pTxt_app,whT_eq]
   show ([]++(kw "delete" ++ ([32]++(kw "from" ++ ([32]++(nm++[]))))))++whT w=_
   simp
  rw [e2];exact h
 | .slc nm w,hx =>
  have h:=text_q hx.1 hx.2 (k:=1) (by decide)
  have e0:kw (tqW 1)=kw "select" ++ ([32]++([42]++([32]++(kw "from" ++ [32])))):=by decide
  rw [e0] at h
  have e2:(Sx.slc nm w).txt=kw "select" ++ ([32]++([42]++([32]++(kw "from" ++ [32]))))++nm++whT w:=by
   show pTxt ([(false,It.w (kw "select")),(true, .m 10),(true, .w (kw "from")),(true, .w nm)]++whP w)=_
   rw [pTxt_app,whT_eq]
   show ([]++(kw "select" ++ ([32]++([42]++([32]++(kw "from" ++ ([32]++(nm++[]))))))))++whT w=_
   simp
  rw [e2];exact h
 | .cou nm w,hx =>
  have h:=text_q hx.1 hx.2 (k:=2) (by decide)
  have e0:kw (tqW 2)=kw "select" ++ ([32]++(kw "count" ++ ([40]++([42]++([41]++([32]++(kw "from" ++ [32]))))))):=by decide
  rw [e0] at h
  have e2:(Sx.cou nm w).txt=kw "select" ++ ([32]++(kw "count" ++ ([40]++([42]++([41]++([32]++(kw "from" ++ [32])))))))++nm++whT w:=by
   show pTxt ([(false,It.w (kw "select")),(true, .w (kw "count")),(false, .m 2),(false, .m 10),(false, .m 3),(true, .w (kw "from")),(true, .w nm)]++whP w)=_
   rw [pTxt_app,whT_eq]
   show ([]++(kw "select" ++ ([32]++(kw "count" ++ ([]++([40]++([]++([42]++([]++([41]++([32]++(kw "from" ++ ([32]++(nm++[]))))))))))))))++whT w=_
   simp
  rw [e2];exact h
end Go.Proofs.YtdlkibeljkapeaaGreatDoor.Den
namespace Go.Proofs.YtdlkibeljkapeaaGreatDoor.Den
open Go Go.RowKit
def tbC (k:Nat):PV:=match k with|0=>.nilslice|_=>.slice 3 ((List.range k).map fun i=>.agg [.atom (10+3*i), .atom (11+3*i), .atom (12+3*i)])
def tbU (u:Nat):PV:=match u with|0=>.nilslice|_=>.slice 1 ((List.range u).map fun i=>.atom (30+i))
def tbK (l:Nat):PV:=match l with|0=>.nilslice|_=>.slice 2 ((List.range l).map fun i=>.agg [.atom (40+2*i), .atom (41+2*i)])
def tbX (k u l:Nat):PV:=.agg ([.atom 0,tbC k, .atom 2,tbU u]++(eaL 60++[tbK l]))
def tbF (k u l:Nat):List Fact:=[.op (.bin .neq ty_string) [.atom 0, .atom 0] (.bool false),oI .neq (.atom 2) (.atom 2) (.bool false), .prim f_r3_Exprs [eA 60,eA 60] (.bool true)] ++
 ((List.range k).map (fun i=>.op (.bin .neq ty_api_Col) [.agg [.atom (10+3*i), .atom (11+3*i), .atom (12+3*i)], .agg [.atom (10+3*i), .atom (11+3*i), .atom (12+3*i)]] (.bool false)) ++
 ((List.range u).map (fun i=>oI .neq (.atom (30+i)) (.atom (30+i)) (.bool false))++(List.range l).map (fun i=>.op (.bin .neq ty_api_Link) [.agg [.atom (40+2*i), .atom (41+2*i)], .agg [.atom (40+2*i), .atom (41+2*i)]] (.bool false))))
theorem tb_k:((List.range 5).all fun k=>(List.range 3).all fun u=>(List.range 3).all fun l=>okR (.bool true) (callF PG (fOrc noOwn (tbF k u l)) 20 f_r3_Tables [tbX k u l,tbX k u l] []))=true:=by kernel_rfl
def rwF (n:Nat):List Fact:=(List.range n).map fun i=>.op (.bin .neq ty_api_Value) [v4A (4*i),v4A (4*i)] (.bool false)
def rwX (n:Nat):PV:=match n with|0=>.nilslice|_=>.slice 4 ((List.range n).map fun i=>v4A (4*i))
theorem rw_k:((List.range 6).all fun n=>okR (.bool true) (callF PG (fOrc noOwn (rwF n)) 20 f_r1_Rows [rwX n,rwX n] []))=true:=by kernel_rfl
def smF:List Fact:=[oI .eql (.atom 0) (.atom 0) (.bool true), .prim f_r3_Tables [.agg ((List.range 12).map fun i=>.atom (1+i)), .agg ((List.range 12).map fun i=>.atom (1+i))] (.bool true),
 .op (.bin .eql ty_string) [.atom 13, .atom 13] (.bool true), .op (.bin .eql ty_string) [.atom 14, .atom 14] (.bool true), .op (.bin .eql ty_string) [.atom 15, .atom 15] (.bool true), .prim f_r1_Rows [.atom 16, .atom 16] (.bool true),
 .prim f_r3_Exprs [eA 17,eA 17] (.bool true), .prim f_r3_Exprs [eA 24,eA 24] (.bool true)]
theorem sm_k:okR (.bool true) (callF PG (fOrc noOwn smF) 20 f_r3_Same [s31 0,s31 0] [])=true:=by kernel_rfl
end Go.Proofs.YtdlkibeljkapeaaGreatDoor.Den
namespace Go.Proofs.YtdlkibeljkapeaaGreatDoor.Den
open Go Go.RowKit
def neG3 (b0 b1 b2:Bool):Option PV:=match (match b0 with|true=>(match b1 with|true=>(match b2 with|true=>some true|false=>some false)|false=>some false)|false=>some false:Option Bool) with|some b=>some (PV.bool !b)|none=>none
def neG2 (b0 b1:Bool):Option PV:=match (match b0 with|true=>(match b1 with|true=>some true|false=>some false)|false=>some false:Option Bool) with|some b=>some (PV.bool !b)|none=>none
theorem neC_k (s s':List UInt8) (t t':Int) (n n':Bool):binP PG .neq ty_api_Col (.agg [.str s,nI t, .bool n]) (.agg [.str s',nI t', .bool n'])=neG3 (s==s') (t==t') (n==n'):=by kernel_rfl
theorem neL_k (c c':Int) (s s':List UInt8):binP PG .neq ty_api_Link (.agg [nI c, .str s]) (.agg [nI c', .str s'])=neG2 (c==c') (s==s'):=by kernel_rfl
theorem neC_self (s:List UInt8) (t:Int) (n:Bool):binP PG .neq ty_api_Col (.agg [.str s,nI t, .bool n]) (.agg [.str s,nI t, .bool n])=some (.bool false):=by
 rw [neC_k];simp [neG3]
theorem neL_self (c:Int) (s:List UInt8):binP PG .neq ty_api_Link (.agg [nI c, .str s]) (.agg [nI c, .str s])=some (.bool false):=by
 rw [neL_k];simp [neG2]
def colsV (k:Nat) (ty:Nat→Int) (nn:Nat→Bool):PV:=match k with|0=>.nilslice|_=>.slice 3 ((List.range k).map (colV ty nn))
def usV (u:Nat) (uq:Nat→Nat):PV:=match u with|0=>.nilslice|_=>.slice 1 ((List.range u).map fun i=>nI (uq i))
def ksV (l:Nat) (lc:Nat→Nat) (ln:Nat→List UInt8):PV:=match l with|0=>.nilslice|_=>.slice 2 ((List.range l).map fun i=>.agg [nI (lc i), .str (ln i)])
def tvL (nm:List UInt8) (k:Nat) (ty:Nat→Int) (nn:Nat→Bool) (key:Int) (u:Nat) (uq:Nat→Nat) (E:E7) (l:Nat) (lc:Nat→Nat) (ln:Nat→List UInt8):List PV:=[.str nm,colsV k ty nn,nI key,usV u uq]++(E.L++[ksV l lc ln])
def tvNu (nm:List UInt8) (ty:Nat→Int) (nn:Nat→Bool) (key:Int) (uq:Nat→Nat) (E:E7) (lc:Nat→Nat) (ln:Nat→List UInt8):List PV :=
 [.str nm,nI 0,nI key,nI 0,nI 0,nI 0,nI 0,nI 0,nI 0,nI 0]++([.str (cnm 0),nI (ty 0), .bool (nn 0), .str (cnm 1),nI (ty 1), .bool (nn 1), .str (cnm 2),nI (ty 2), .bool (nn 2), .str (cnm 3),nI (ty 3), .bool (nn 3)]++(List.replicate 8 (nI 0)++([nI (uq 0),nI (uq 1)]++(List.replicate 8 (nI 0)++([nI (lc 0), .str (ln 0),nI (lc 1), .str (ln 1)]++(List.replicate 16 (nI 0)++E.L))))))
set_option maxRecDepth 40000 in
theorem tables_ev {nm:List UInt8} {k:Nat} {ty:Nat→Int} {nn:Nat→Bool} {key:Int} {u:Nat} {uq:Nat→Nat} {E:E7} {l:Nat} {lc:Nat→Nat} {ln:Nat→List UInt8} (hk:k < 5) (hu:u < 3) (hl:l < 3) (hE:E.ok=true) (hx:Ev PG f_r3_Exprs [E.pv,E.pv] (.bool true)) (hp:PV.pureL (tvL nm k ty nn key u uq E l lc ln)=true) :
  Ev PG f_r3_Tables [.agg (tvL nm k ty nn key u uq E l lc ln), .agg (tvL nm k ty nn key u uq E l lc ln)] (.bool true):=by
 have hnu:NuOk (nuL (tvNu nm ty nn key uq E lc ln)):=nuL_okB (by
  unfold tvNu
  simp only [List.all_append,show (E.L.all fun p=>p.clean&&p.pure)=true from hE]
  rfl)
 have h1:subD (nuL (tvNu nm ty nn key uq E lc ln)) (tbC k)=colsV k ty nn:=by
  have:k=0∨k=1∨k=2∨k=3∨k=4:=by omega
  rcases this with rfl|rfl|rfl|rfl|rfl<;>rfl
 have h2:subD (nuL (tvNu nm ty nn key uq E lc ln)) (tbU u)=usV u uq:=by
  have:u=0∨u=1∨u=2:=by omega
  rcases this with rfl|rfl|rfl<;>rfl
 have h3:subD (nuL (tvNu nm ty nn key uq E lc ln)) (tbK l)=ksV l lc ln:=by
  have:l=0∨l=1∨l=2:=by omega
  rcases this with rfl|rfl|rfl<;>rfl
 have hT:subD (nuL (tvNu nm ty nn key uq E lc ln)) (tbX k u l) = .agg (tvL nm k ty nn key u uq E l lc ln):=by
  show PV.agg (subDL _ (([.atom 0,tbC k, .atom 2,tbU u]:List PV)++(eaL 60++[tbK l])))=_
  rw [subDL_app,subDL_app]
  show PV.agg ([_,subD _ (tbC k),_,subD _ (tbU u)]++(_++[subD _ (tbK l)]))=_
  rw [h1,h2,h3];rfl
 have hf:FactsOk PG (nuL (tvNu nm ty nn key uq E lc ln)) (tbF k u l):=by
  unfold tbF
  refine FactsOk.append ⟨fStrEq (l:=nm) (m:=nm) rfl rfl (show strP .neq nm nm=some (.bool (nm != nm)) from rfl) (by simp [subD]) rfl,fCmp (a:=key) (b:=key) (c:=false) rfl rfl rfl (by rw [i64ne];simp) (by decide) rfl,fprim hx rfl rfl rfl,trivial⟩
   (FactsOk.append (FactsOk.of ?_) (FactsOk.append (FactsOk.of ?_) (FactsOk.of ?_)))
  ·intro f hf
   obtain ⟨i,hi,rfl⟩:=List.mem_map.1 hf
   rw [List.mem_range] at hi
   have:i=0∨i=1∨i=2∨i=3:=by omega
   rcases this with rfl|rfl|rfl|rfl<;>exact ⟨neC_self _ _ _,rfl⟩
  ·intro f hf
   obtain ⟨i,hi,rfl⟩:=List.mem_map.1 hf
   rw [List.mem_range] at hi
   have:i=0∨i=1:=by omega
   rcases this with rfl|rfl
   ·exact fCmp (a:=uq 0) (b:=uq 0) (c:=false) rfl rfl rfl (by rw [i64ne];simp) (by decide) rfl
   ·exact fCmp (a:=uq 1) (b:=uq 1) (c:=false) rfl rfl rfl (by rw [i64ne];simp) (by decide) rfl
  ·intro f hf
   obtain ⟨i,hi,rfl⟩:=List.mem_map.1 hf
   rw [List.mem_range] at hi
   have:i=0∨i=1:=by omega
   rcases this with rfl|rfl<;>exact ⟨neL_self _ _,rfl⟩
 have:=Ev.facts (args:=[tbX k u l,tbX k u l]) (r:=.bool true) prog_ok hnu (okR_eq (List.all_eq_true.1 (List.all_eq_true.1 (List.all_eq_true.1 tb_k k (by rw [List.mem_range];exact hk)) u (by rw [List.mem_range];exact hu)) l (by rw [List.mem_range];exact hl))) hf
  (two_args (by rw [hT];exact hp) (by cases k<;>cases u<;>cases l<;>rfl) (by
   show (PV.clean _&&(_&&_))=true
   have c1:(tbC k).clean=true:=by cases k<;>rfl
   have c2:(tbU u).clean=true:=by cases u<;>rfl
   have c3:(tbK l).clean=true:=by cases l<;>rfl
   show ((PV.atom 0).clean&&((tbC k).clean&&((PV.atom 2).clean&&((tbU u).clean&&(true&&(true&&(true&&(true&&(true&&(true&&(true&&((tbK l).clean&&true))))))))))))=true
   rw [c1,c2,c3];rfl)) rfl
 simp only [List.map_cons,List.map_nil,hT] at this
 exact this
set_option maxRecDepth 40000 in
theorem rows_ev {vs:List (V4 × List UInt8)} (h5:vs.length≤5):Ev PG f_r1_Rows [(match vs.length with|0=>.nilslice|_=>rowP vs),(match vs.length with|0=>.nilslice|_=>rowP vs)] (.bool true):=by
 have hT:subD (nuL (v4L (vs.getD 0 (v0,[])).1++(v4L (vs.getD 1 (v0,[])).1++(v4L (vs.getD 2 (v0,[])).1++(v4L (vs.getD 3 (v0,[])).1++v4L (vs.getD 4 (v0,[])).1))))) (rwX vs.length)=(match vs.length with|0=>.nilslice|_=>rowP vs):=by
  match vs,h5 with
  | [],_=>rfl
  | [_],_=>rfl
  | [_,_],_=>rfl
  | [_,_,_],_=>rfl
  | [_,_,_,_],_=>rfl
  | [_,_,_,_,_],_=>rfl
 have hf:FactsOk PG (nuL (v4L (vs.getD 0 (v0,[])).1++(v4L (vs.getD 1 (v0,[])).1++(v4L (vs.getD 2 (v0,[])).1++(v4L (vs.getD 3 (v0,[])).1++v4L (vs.getD 4 (v0,[])).1))))) (rwF vs.length):=by
  refine FactsOk.of fun f hf=>?_
  obtain ⟨i,hi,rfl⟩:=List.mem_map.1 hf
  rw [List.mem_range] at hi
  have:i=0∨i=1∨i=2∨i=3∨i=4:=by omega
  rcases this with rfl|rfl|rfl|rfl|rfl<;>exact ⟨neV_self _,rfl⟩
 have hp:(subD (nuL (v4L (vs.getD 0 (v0,[])).1++(v4L (vs.getD 1 (v0,[])).1++(v4L (vs.getD 2 (v0,[])).1++(v4L (vs.getD 3 (v0,[])).1++v4L (vs.getD 4 (v0,[])).1))))) (rwX vs.length)).pure=true:=by
  rw [hT]
  cases vs.length with
  | zero=>rfl
  | succ n=>exact row_pure vs
 have hs:(rwX vs.length).shut=true:=by cases vs.length<;>rfl
 have ho:oneB (nuL (v4L (vs.getD 0 (v0,[])).1++(v4L (vs.getD 1 (v0,[])).1++(v4L (vs.getD 2 (v0,[])).1++(v4L (vs.getD 3 (v0,[])).1++v4L (vs.getD 4 (v0,[])).1))))) (rwX vs.length)=true:=by cases vs.length<;>rfl
 have:=Ev.facts (args:=[rwX vs.length,rwX vs.length]) (r:=.bool true) prog_ok (nuL_okB rfl) (okR_eq (List.all_eq_true.1 rw_k vs.length (by rw [List.mem_range];omega))) hf (two_args hp ho hs) rfl
 simp only [List.map_cons,List.map_nil,hT] at this
 exact this
theorem same_gen {k:Int} {T:List PV} {nm col dst:List UInt8} {row:PV} {e w:E7} (hT:T.length=12) (hTg:(T.all fun p=>p.clean&&p.pure)=true) (hr:(row.clean&&row.pure)=true) (he:e.ok=true) (hw:w.ok=true) (h1:Ev PG f_r3_Tables [.agg T, .agg T] (.bool true)) (h2:Ev PG f_r1_Rows [row,row] (.bool true)) (h3:Ev PG f_r3_Exprs [e.pv,e.pv] (.bool true)) (h4:Ev PG f_r3_Exprs [w.pv,w.pv] (.bool true)) :
  Ev PG f_r3_Same [stP k T nm col dst row e w,stP k T nm col dst row e w] (.bool true):=by
 match T,hT with
 | [a1,a2,a3,a4,a5,a6,a7,a8,a9,a10,a11,a12],_ =>
  have hnu:NuOk (nuL ([nI k]++([a1,a2,a3,a4,a5,a6,a7,a8,a9,a10,a11,a12]++([.str nm, .str col, .str dst,row]++(e.L++w.L))))):=nuL_okB (by
   simp only [List.all_append,hTg,show (e.L.all fun p=>p.clean&&p.pure)=true from he,show (w.L.all fun p=>p.clean&&p.pure)=true from hw]
   simp only [List.all_cons,hr]
   rfl)
  have hp:(stP k [a1,a2,a3,a4,a5,a6,a7,a8,a9,a10,a11,a12] nm col dst row e w).pure=true:=by
   have e1:=E7.pure he
   have e2:=E7.pure hw
   have e3:PV.pureL [a1,a2,a3,a4,a5,a6,a7,a8,a9,a10,a11,a12]=true:=pureL_of fun p hp=>by
    have:=List.all_eq_true.1 hTg p hp
    rw [Bool.and_eq_true] at this
    exact this.2
   rw [Bool.and_eq_true] at hr
   show PV.pureL (nI k::([a1,a2,a3,a4,a5,a6,a7,a8,a9,a10,a11,a12]++([.str nm, .str col, .str dst,row]++(e.L++w.L))))=true
   have e4:PV.pureL e.L=true:=e1
   have e5:PV.pureL w.L=true:=e2
   rw [PV.pureL,pureL_app,e3,pureL_app,pureL_app,e4,e5]
   simp [PV.pureL,PV.pure,hr.2]
  exact Ev.facts (nu:=nuL ([nI k]++([a1,a2,a3,a4,a5,a6,a7,a8,a9,a10,a11,a12]++([.str nm, .str col, .str dst,row]++(e.L++w.L))))) (args:=[s31 0,s31 0]) (r:=.bool true) prog_ok hnu (okR_eq sm_k)
   ⟨fCmp (a:=k) (b:=k) (c:=true) rfl rfl rfl (by rw [i64eq];simp) (by decide) rfl,fprim h1 rfl rfl rfl,fStrEq (l:=nm) (m:=nm) rfl rfl (same_str _ _) (by simp [subD]) rfl,fStrEq (l:=col) (m:=col) rfl rfl (same_str _ _) (by simp [subD]) rfl,fStrEq (l:=dst) (m:=dst) rfl rfl (same_str _ _) (by simp [subD]) rfl,
    fprim h2 rfl rfl rfl,fprim h3 rfl rfl rfl,fprim h4 rfl rfl rfl,trivial⟩ (two_args hp rfl rfl) rfl
theorem exprs_w (w:Option Xp):Ev PG f_r3_Exprs [(wX w).pv,(wX w).pv] (.bool true):=by
 cases w with
 | none=>exact Ev.facts (nu:=nuL []) (args:=[E7.zero.pv,E7.zero.pv]) prog_ok (nuL_okB rfl) (okR_eq sx_zero) trivial rfl rfl
 | some e=>exact exprs_ev e
theorem same_ev {x:Sx} (hx:x.wf):Ev PG f_r3_Same [x.pv,x.pv] (.bool true):=by
 have hz:Ev PG f_r3_Tables [.agg tableZ, .agg tableZ] (.bool true):=tables_ev (nm:=[]) (k:=0) (ty:=fun _=>0) (nn:=fun _=>false) (key:=0) (u:=0) (uq:=fun _=>0) (E:=E7.zero) (l:=0) (lc:=fun _=>0) (ln:=fun _=>[]) (by decide) (by decide) (by decide) rfl (exprs_w none) rfl
 have hr0:Ev PG f_r1_Rows [.nilslice, .nilslice] (.bool true):=rows_ev (vs:=[]) (by decide)
 have gen:∀ {k:Int} {nm col dst:List UInt8} {e w:E7},e.ok=true→w.ok=true→Ev PG f_r3_Exprs [e.pv,e.pv] (.bool true)→Ev PG f_r3_Exprs [w.pv,w.pv] (.bool true)→Ev PG f_r3_Same [stP k tableZ nm col dst .nilslice e w,stP k tableZ nm col dst .nilslice e w] (.bool true):=fun he hw h3 h4=>same_gen rfl rfl rfl he hw hz hr0 h3 h4
 match x,hx with
 | .cre b,hx =>
  have hk:=hx.k
  have ht:Ev PG f_r3_Tables [.agg b.val, .agg b.val] (.bool true):=by
   have e:b.val=tvL b.nm b.k b.ty b.nn b.key b.u b.uq (wX b.ck) b.l b.lc b.ln:=by
    obtain ⟨m,hm⟩:∃ m,b.k=m+1:=⟨b.k - 1,by omega⟩
    unfold Tb.val tabV tvL colsV Tb.uqV Tb.lkV usV ksV
    rw [hm]
    rfl
   have hp:=val_pure b
   rw [e] at hp ⊢
   exact tables_ev (by omega) hx.u hx.l (wX_ok b.ck) (exprs_w b.ck) hp
  exact same_gen rfl (val_good b) rfl rfl rfl ht hr0 (exprs_w none) (exprs_w none)
 | .drop nm,_=>exact gen rfl rfl (exprs_w none) (exprs_w none)
 | .link nm col dst,_=>exact gen rfl rfl (exprs_w none) (exprs_w none)
 | .ins nm vs,hx =>
  have hr:=rows_ev hx.2.2.1
  obtain ⟨m,hm⟩:∃ m,vs.length=m+1:=⟨vs.length - 1,by have:=List.length_pos_iff.2 hx.2.1;omega⟩
  rw [hm] at hr
  exact same_gen rfl rfl (by show (true&&PV.pureL _)=true;rw [row_pure];rfl) rfl rfl hz hr (exprs_w none) (exprs_w none)
 | .upd nm col e w,_=>exact gen (e7_ok e) (wX_ok w) (exprs_ev e) (exprs_w w)
 | .del nm w,_=>exact gen rfl (wX_ok w) (exprs_w none) (exprs_w w)
 | .slc nm w,_=>exact gen rfl (wX_ok w) (exprs_w none) (exprs_w w)
 | .cou nm w,_=>exact gen rfl (wX_ok w) (exprs_w none) (exprs_w w)
end Go.Proofs.YtdlkibeljkapeaaGreatDoor.Den
namespace Go.Proofs.YtdlkibeljkapeaaGreatDoor.Den
open Go Go.RowKit
def tFacts (k L key u l : Nat) : List Fact :=
  [.prim f_l3_One [.atom 10] (eA 60), oI .quo (.atom 0) (nI 4) (.atom 3), .prim f_l3_within [.atom 3, nI 4] (nI ((k : Int) - 1)), .prim f_l3_Name [.atom 0] (.atom 4), .op (.len ty_sl_int) [.atom 1] (.atom 2),
   oI .quo (.atom 0) (nI 16) (.atom 5), .prim f_l3_within [.atom 5, nI k] (nI key), oI .quo (.atom 0) (nI 64) (.atom 6), .prim f_l3_within [.atom 6, nI 3] (nI u),
   oI .quo (.atom 0) (nI 256) (.atom 7), .prim f_l3_within [.atom 7, nI 3] (nI l), oI .quo (.atom 0) (nI 512) (.atom 8), oI .quo (.atom 0) (nI 1024) (.atom 9)] ++
  (List.range L).flatMap (fun (i : Nat) => [oI .lss (nI i) (.atom 2) (.bool true), .op (.ix ty_sl_int) [.atom 1, nI i] (.ref [.atom (20 + i)]), .prim f_l3_within [.atom (20 + i), nI 1073741824] (.atom (24 + i)), oI .rem (.atom (24 + i)) (nI 5) (.atom (28 + i)), oI .add (nI 1) (.atom (28 + i)) (.atom (32 + i)),
     oI .quo (.atom (24 + i)) (nI 5) (.atom (36 + i)), oI .rem (.atom (36 + i)) (nI 3) (.atom (40 + i)), oI .eql (.atom (40 + i)) (nI 0) (.atom (44 + i))]) ++
  (List.range (k - L)).map (fun (i : Nat) => oI .lss (nI (L + i : Nat)) (.atom 2) (.bool false)) ++
  (List.range l).flatMap (fun (i : Nat) => [oI .add (.atom 8) (nI i) (.atom (48 + i)), .prim f_l3_within [.atom (48 + i), nI k] (.atom (50 + i)), oI .add (.atom 9) (nI i) (.atom (52 + i)), .prim f_l3_Name [.atom (52 + i)] (.atom (54 + i))])
def colA (L key i:Nat):PV:=.agg [.str [UInt8.ofNat (97+i)],if i < L then .atom (32+i) else nI (1+(2+i) % 5:Nat),if i=key then .bool true else if i < L then .atom (44+i) else .bool ((2+i) / 5 % 3==0)]
def uqA (k key u:Nat):PV:=if u=0 then .nilslice else .slice 1 ((List.range (min u k)).map fun (i:Nat)=>nI ((key+1+i) % k:Nat))
def lkA (l:Nat):PV:=if l=0 then .nilslice else .slice 2 ((List.range l).map fun (i:Nat)=>.agg [.atom (50+i), .atom (54+i)])
def tabC (nm cols key uq lk:PV):PV:=.agg ([nm,cols,key,uq]++(eaL 60++[lk]))
def tabA (k L key u l:Nat):PV:=tabC (.atom 4) (.slice 3 ((List.range k).map (colA L key))) (nI key) (uqA k key u) (lkA l)
noncomputable def tabOkB (k L key u l:Nat):Bool:=okR (tabA k L key u l) (callF PG (fOrc noOwn (tFacts k L key u l)) 60 f_l3_Table [.atom 0, .atom 1, .atom 10] [])
theorem table_k1:((List.range 2).all fun L=>(List.range 1).all fun key=>(List.range 3).all fun u=>(List.range 3).all fun l=>tabOkB 1 L key u l)=true:=by kernel_rfl
theorem table_k2:((List.range 3).all fun L=>(List.range 2).all fun key=>(List.range 3).all fun u=>(List.range 3).all fun l=>tabOkB 2 L key u l)=true:=by kernel_rfl
theorem table_k3:((List.range 4).all fun L=>(List.range 3).all fun key=>(List.range 3).all fun u=>(List.range 3).all fun l=>tabOkB 3 L key u l)=true:=by kernel_rfl
theorem table_k40:((List.range 5).all fun L=>(List.range 3).all fun u=>(List.range 3).all fun l=>tabOkB 4 L 0 u l)=true:=by kernel_rfl
theorem table_k41:((List.range 5).all fun L=>(List.range 3).all fun u=>(List.range 3).all fun l=>tabOkB 4 L 1 u l)=true:=by kernel_rfl
theorem table_k42:((List.range 5).all fun L=>(List.range 3).all fun u=>(List.range 3).all fun l=>tabOkB 4 L 2 u l)=true:=by kernel_rfl
theorem table_k43:((List.range 5).all fun L=>(List.range 3).all fun u=>(List.range 3).all fun l=>tabOkB 4 L 3 u l)=true:=by kernel_rfl
theorem table_k4:((List.range 5).all fun L=>(List.range 4).all fun key=>(List.range 3).all fun u=>(List.range 3).all fun l=>tabOkB 4 L key u l)=true:=by
 refine List.all_eq_true.2 fun L hL=>List.all_eq_true.2 fun key hk=>List.all_eq_true.2 fun u hu=>List.all_eq_true.2 fun l hl=>?_
 rw [List.mem_range] at hk
 have:key=0∨key=1∨key=2∨key=3:=by omega
 rcases this with rfl|rfl|rfl|rfl
 ·exact List.all_eq_true.1 (List.all_eq_true.1 (List.all_eq_true.1 table_k40 L hL) u hu) l hl
 ·exact List.all_eq_true.1 (List.all_eq_true.1 (List.all_eq_true.1 table_k41 L hL) u hu) l hl
 ·exact List.all_eq_true.1 (List.all_eq_true.1 (List.all_eq_true.1 table_k42 L hL) u hu) l hl
 ·exact List.all_eq_true.1 (List.all_eq_true.1 (List.all_eq_true.1 table_k43 L hL) u hu) l hl
theorem table_k (k L key u l:Nat) (hk:1≤k∧k≤4) (hL:L≤k) (hkey:key < k) (hu:u < 3) (hl:l < 3):tabOkB k L key u l=true:=by
 have:k=1∨k=2∨k=3∨k=4:=by omega
 rcases this with rfl|rfl|rfl|rfl
 ·exact List.all_eq_true.1 (List.all_eq_true.1 (List.all_eq_true.1 (List.all_eq_true.1 table_k1 L (by rw [List.mem_range];omega)) key (by rw [List.mem_range];omega)) u (by rw [List.mem_range];omega)) l (by rw [List.mem_range];omega)
 ·exact List.all_eq_true.1 (List.all_eq_true.1 (List.all_eq_true.1 (List.all_eq_true.1 table_k2 L (by rw [List.mem_range];omega)) key (by rw [List.mem_range];omega)) u (by rw [List.mem_range];omega)) l (by rw [List.mem_range];omega)
 ·exact List.all_eq_true.1 (List.all_eq_true.1 (List.all_eq_true.1 (List.all_eq_true.1 table_k3 L (by rw [List.mem_range];omega)) key (by rw [List.mem_range];omega)) u (by rw [List.mem_range];omega)) l (by rw [List.mem_range];omega)
 ·exact List.all_eq_true.1 (List.all_eq_true.1 (List.all_eq_true.1 (List.all_eq_true.1 table_k4 L (by rw [List.mem_range];omega)) key (by rw [List.mem_range];omega)) u (by rw [List.mem_range];omega)) l (by rw [List.mem_range];omega)
end Go.Proofs.YtdlkibeljkapeaaGreatDoor.Den
namespace Go.Proofs.YtdlkibeljkapeaaGreatDoor.Den
open Go Go.RowKit
theorem name_k:((List.range 4).all fun (i:Nat)=>okR ([PV.str [116], .str [117], .str [119,95,49], .str [116,119,101,108,118,101,95,98,121,116,101,115]].getD i .any) (callF PG (fOrc noOwn [.prim f_l3_within [.atom 0,nI 4] (nI i)]) 20 f_l3_Name [.atom 0] []))=true:=by kernel_rfl
def nameL (n:Int):List UInt8:=[[116],[117],[119,95,49],[116,119,101,108,118,101,95,98,121,116,101,115]].getD (wthn n 4).toNat []
theorem name_ev (n:Int):Ev PG f_l3_Name [nI n] (.str (nameL n)):=by
 obtain ⟨h1,h2⟩:=wthn_range n 4 (by decide) (by decide)
 obtain ⟨i,hi⟩:∃ i:Nat,wthn n 4=i:=⟨(wthn n 4).toNat,by omega⟩
 have hw:=within3_ev n 4 (by decide)
 rw [hi] at hw
 have hk:=okR_eq (List.all_eq_true.1 name_k i (by rw [List.mem_range];omega))
 have e:nameL n=([[116],[117],[119,95,49],[116,119,101,108,118,101,95,98,121,116,101,115]]:List (List UInt8)).getD i []:=by unfold nameL;rw [hi];rfl
 rw [e]
 have h4:i=0∨i=1∨i=2∨i=3:=by omega
 rcases h4 with rfl|rfl|rfl|rfl
 all_goals exact Ev.facts prog_ok (nuL_okB (l:=[nI n]) rfl) hk ⟨⟨hw,rfl⟩,trivial⟩ rfl rfl
theorem name_ok (n:Int):NmOk (nameL n):=by
 have h:∀ i,i < 4→wdB (([[116],[117],[119,95,49],[116,119,101,108,118,101,95,98,121,116,101,115]]:List (List UInt8)).getD i [])=true∧keysL.contains (([[116],[117],[119,95,49],[116,119,101,108,118,101,95,98,121,116,101,115]]:List (List UInt8)).getD i [])=false:=by decide +kernel
 obtain ⟨h1,h2⟩:=wthn_range n 4 (by decide) (by decide)
 have:=h (wthn n 4).toNat (by omega)
 exact ⟨this.1,this.2⟩
def tM (xs:List Int) (i:Nat):Int:=wthn (xs.getD i 0) 1073741824
def tL (n : Int) (mv : PV) (xs : List Int) (k : Nat) (cv : PV) (E : E7) : List PV :=
  [nI n, mv, nI xs.length, nI (w6' (n.tdiv 4)), .str (nameL n), nI (w6' (n.tdiv 16)), nI (w6' (n.tdiv 64)), nI (w6' (n.tdiv 256)), nI (w6' (n.tdiv 512)), nI (w6' (n.tdiv 1024)),
   cv, nI 0, nI 0, nI 0, nI 0, nI 0, nI 0, nI 0, nI 0, nI 0,
   nI (xs.getD 0 0), nI (xs.getD 1 0), nI (xs.getD 2 0), nI (xs.getD 3 0), nI (tM xs 0), nI (tM xs 1), nI (tM xs 2), nI (tM xs 3),
   nI ((tM xs 0).tmod 5), nI ((tM xs 1).tmod 5), nI ((tM xs 2).tmod 5), nI ((tM xs 3).tmod 5), nI (w6' (1 + (tM xs 0).tmod 5)), nI (w6' (1 + (tM xs 1).tmod 5)), nI (w6' (1 + (tM xs 2).tmod 5)), nI (w6' (1 + (tM xs 3).tmod 5)),
   nI (w6' ((tM xs 0).tdiv 5)), nI (w6' ((tM xs 1).tdiv 5)), nI (w6' ((tM xs 2).tdiv 5)), nI (w6' ((tM xs 3).tdiv 5)), nI ((w6' ((tM xs 0).tdiv 5)).tmod 3), nI ((w6' ((tM xs 1).tdiv 5)).tmod 3), nI ((w6' ((tM xs 2).tdiv 5)).tmod 3), nI ((w6' ((tM xs 3).tdiv 5)).tmod 3),
   .bool ((w6' ((tM xs 0).tdiv 5)).tmod 3 == 0), .bool ((w6' ((tM xs 1).tdiv 5)).tmod 3 == 0), .bool ((w6' ((tM xs 2).tdiv 5)).tmod 3 == 0), .bool ((w6' ((tM xs 3).tdiv 5)).tmod 3 == 0),
   nI (w6' (w6' (n.tdiv 512) + 0)), nI (w6' (w6' (n.tdiv 512) + 1)), nI (wthn (w6' (w6' (n.tdiv 512) + 0)) k), nI (wthn (w6' (w6' (n.tdiv 512) + 1)) k), nI (w6' (w6' (n.tdiv 1024) + 0)), nI (w6' (w6' (n.tdiv 1024) + 1)), .str (nameL (w6' (w6' (n.tdiv 1024) + 0))), .str (nameL (w6' (w6' (n.tdiv 1024) + 1)))] ++ ([nI 0, nI 0, nI 0, nI 0] ++ E.L)
theorem tL_ok (n:Int) {mv:PV} {xs:List Int} (hmv:mv = .slice 1 (xs.map (.int .i64))∨(mv = .nilslice∧xs=[])) (k:Nat) {cv:PV} (hc:(cv.clean&&cv.pure)=true) {E:E7} (hE:E.ok=true):NuOk (nuL (tL n mv xs k cv E)):=by
 refine nuL_okB ?_
 unfold tL
 rw [List.all_append,List.all_append,show (E.L.all fun p=>p.clean&&p.pure)=true from hE]
 simp only [List.all_cons,(ints_good hmv).1,hc,List.all_nil]
 rfl
theorem tFacts_ok (n:Int) {mv:PV} {xs:List Int} (hmv:mv = .slice 1 (xs.map (.int .i64))∨(mv = .nilslice∧xs=[])) (k L key u l:Nat) {cv:PV} {E:E7} (hone:Ev PG f_l3_One [cv] E.pv) (hk:1≤k∧k≤4) (hL:L=min xs.length k) (e1:wthn (w6' (n.tdiv 4)) 4=(k:Int) - 1) (e2:wthn (w6' (n.tdiv 16)) k=key)
  (e3:wthn (w6' (n.tdiv 64)) 3=u) (e4:wthn (w6' (n.tdiv 256)) 3=l) (hl:l < 3):FactsOk PG (nuL (tL n mv xs k cv E)) (tFacts k L key u l):=by
 have hk0:(k:Int)≠0:=by omega
 have four:∀ i,i < L→(i=0∨i=1∨i=2∨i=3)∧i < xs.length:=fun i hi=>by omega
 have w1:=within3_ev (w6' (n.tdiv 4)) 4 (by decide)
 have w2:=within3_ev (w6' (n.tdiv 16)) k hk0
 have w3:=within3_ev (w6' (n.tdiv 64)) 3 (by decide)
 have w4:=within3_ev (w6' (n.tdiv 256)) 3 (by decide)
 rw [e1] at w1
 rw [e2] at w2
 rw [e3] at w3
 rw [e4] at w4
 unfold tFacts
 refine FactsOk.append (FactsOk.append (FactsOk.append ⟨fprim hone rfl rfl rfl,?_,?_,?_,?_,?_,?_,?_,?_,?_,?_,?_,?_,trivial⟩ (FactsOk.of ?_)) (FactsOk.of ?_)) (FactsOk.of ?_)
 ·exact fInt rfl rfl rfl rfl (by decide) rfl
 ·exact fprim w1 rfl rfl rfl
 ·exact fprim (name_ev n) rfl rfl rfl
 ·exact fLen hmv rfl rfl
 ·exact fInt rfl rfl rfl rfl (by decide) rfl
 ·exact fprim w2 rfl rfl rfl
 ·exact fInt rfl rfl rfl rfl (by decide) rfl
 ·exact fprim w3 rfl rfl rfl
 ·exact fInt rfl rfl rfl rfl (by decide) rfl
 ·exact fprim w4 rfl rfl rfl
 ·exact fInt rfl rfl rfl rfl (by decide) rfl
 ·exact fInt rfl rfl rfl rfl (by decide) rfl
 ·intro f hf
  obtain ⟨i,hi,hf⟩:=List.mem_flatMap.1 hf
  rw [List.mem_range] at hi
  obtain ⟨h4,hx⟩:=four i hi
  have hlt:((i:Nat):Int) < (xs.length:Int):=by omega
  have hw:=within3_ev (xs.getD i 0) 1073741824 (by decide)
  simp only [List.mem_cons,List.not_mem_nil,or_false] at hf
  rcases hf with rfl|rfl|rfl|rfl|rfl|rfl|rfl|rfl
  ·exact fCmp (c:=true) (a:=i) (b:=xs.length) rfl rfl rfl (by simp [intP,hlt]) (by decide) rfl
  ·rcases h4 with rfl|rfl|rfl|rfl<;>exact fIx hmv hx rfl rfl rfl
  ·rcases h4 with rfl|rfl|rfl|rfl<;>exact fprim hw rfl rfl rfl
  ·rcases h4 with rfl|rfl|rfl|rfl<;>exact fInt rfl rfl rfl rfl (by decide) rfl
  ·rcases h4 with rfl|rfl|rfl|rfl<;>exact fInt rfl rfl rfl rfl (by decide) rfl
  ·rcases h4 with rfl|rfl|rfl|rfl<;>exact fInt rfl rfl rfl rfl (by decide) rfl
  ·rcases h4 with rfl|rfl|rfl|rfl<;>exact fInt rfl rfl rfl rfl (by decide) rfl
  ·rcases h4 with rfl|rfl|rfl|rfl<;>exact fCmp rfl rfl rfl rfl (by decide) rfl
 ·intro f hf
  obtain ⟨i,hi,rfl⟩:=List.mem_map.1 hf
  rw [List.mem_range] at hi
  have hge:¬ ((L+i:Nat):Int) < (xs.length:Int):=by omega
  exact fCmp (c:=false) (a:=(L+i:Nat)) (b:=xs.length) rfl rfl rfl (by simp only [intP];rw [decide_eq_false hge]) (by decide) rfl
 ·intro f hf
  obtain ⟨i,hi,hf⟩:=List.mem_flatMap.1 hf
  rw [List.mem_range] at hi
  have h2:i=0∨i=1:=by omega
  have hw:=within3_ev (w6' (w6' (n.tdiv 512)+i)) k hk0
  have hn:=name_ev (w6' (w6' (n.tdiv 1024)+i))
  simp only [List.mem_cons,List.not_mem_nil,or_false] at hf
  rcases hf with rfl|rfl|rfl|rfl<;>rcases h2 with rfl|rfl
  ·exact fInt rfl rfl rfl rfl (by decide) rfl
  ·exact fInt rfl rfl rfl rfl (by decide) rfl
  ·exact fprim hw rfl rfl rfl
  ·exact fprim hw rfl rfl rfl
  ·exact fInt rfl rfl rfl rfl (by decide) rfl
  ·exact fInt rfl rfl rfl rfl (by decide) rfl
  ·exact fprim hn rfl rfl rfl
  ·exact fprim hn rfl rfl rfl
def tbOf (n:Int) (xs:List Int) (k key u l:Nat) (ck:Option Xp):Tb where
 nm:=nameL n
 k:=k
 t i:=if i < min xs.length k then ((tM xs i) % 5).toNat else (2+i) % 5
 nn i:=if i=key then true else if i < min xs.length k then (w6' ((tM xs i).tdiv 5)).tmod 3==0 else ((2+i) / 5 % 3==0)
 key:=key
 u:=min u k
 uq i:=(key+1+i) % k
 ck:=ck
 l:=l
 lc i:=(wthn (w6' (w6' (n.tdiv 512)+i)) k).toNat
 ln i:=nameL (w6' (w6' (n.tdiv 1024)+i))
theorem tM_pos (xs:List Int) (i:Nat):0≤tM xs i∧tM xs i < 1073741824:=wthn_range _ _ (by decide) (by decide)
theorem tbOf_wf (n:Int) (xs:List Int) {k key u l:Nat} {ck:Option Xp} (hk:1≤k∧k≤4) (hkey:key < k) (hu:u < 3) (hl:l < 3) (hc:∀ e,ck=some e→XpOk e):(tbOf n xs k key u l ck).Wf where
 nm:=name_ok n
 k:=hk
 t i:=by
  show (if i < min xs.length k then ((tM xs i) % 5).toNat else (2+i) % 5) < 5
  split
  ·have:=(tM_pos xs i).1
   omega
  ·omega
 key:=hkey
 u:=by show min u k < 3;omega
 uq i:=by show (key+1+i) % k < k;exact Nat.mod_lt _ (by omega)
 ck:=hc
 l:=hl
 lc i:=by
  obtain ⟨h1,h2⟩:=wthn_range (w6' (w6' (n.tdiv 512)+i)) k (by omega) (by omega)
  show (wthn (w6' (w6' (n.tdiv 512)+i)) k).toNat < k
  omega
 ln i:=name_ok _
theorem sub_tabA (n:Int) (mv:PV) (xs:List Int) (cv:PV) (ck:Option Xp) {k key u l:Nat} (hk:1≤k∧k≤4) (hl:l < 3) :
  subD (nuL (tL n mv xs k cv (wX ck))) (tabA k (min xs.length k) key u l) = .agg (tbOf n xs k key u l ck).val:=by
 have hcol:subDL (nuL (tL n mv xs k cv (wX ck))) ((List.range k).map (colA (min xs.length k) key))=(List.range k).map (colV (tbOf n xs k key u l ck).ty (tbOf n xs k key u l ck).nn):=by
  rw [subDL_map,List.map_map]
  refine List.map_congr_left fun i hi=>?_
  rw [List.mem_range] at hi
  have h4:i=0∨i=1∨i=2∨i=3:=by omega
  have hp:=tM_pos xs i
  have ety:(tbOf n xs k key u l ck).ty i=if i < min xs.length k then w6' (1+(tM xs i).tmod 5) else (1+(2+i) % 5:Nat):=by
   show (((if i < min xs.length k then ((tM xs i) % 5).toNat else (2+i) % 5)+1:Nat):Int)=_
   split
   ·have e:(tM xs i).tmod 5=tM xs i % 5:=Int.tmod_eq_emod_of_nonneg hp.1
    have e2:w6' (1+tM xs i % 5)=1+tM xs i % 5:=w6_id' (by omega) (by omega)
    rw [e,e2]
    omega
   ·omega
  have enn:(tbOf n xs k key u l ck).nn i=if i=key then true else if i < min xs.length k then (w6' ((tM xs i).tdiv 5)).tmod 3==0 else ((2+i) / 5 % 3==0):=rfl
  simp only [Function.comp,colA,colV]
  rw [ety,enn]
  by_cases h1:i < min xs.length k
  ·by_cases h2:i=key
   ·simp only [if_pos h1,if_pos h2]
    rcases h4 with rfl|rfl|rfl|rfl<;>rfl
   ·simp only [if_pos h1,if_neg h2]
    rcases h4 with rfl|rfl|rfl|rfl<;>rfl
  ·by_cases h2:i=key
   ·simp only [if_neg h1,if_pos h2]
    rcases h4 with rfl|rfl|rfl|rfl<;>rfl
   ·simp only [if_neg h1,if_neg h2]
    rcases h4 with rfl|rfl|rfl|rfl<;>rfl
 have huq:subD (nuL (tL n mv xs k cv (wX ck))) (uqA k key u)=(tbOf n xs k key u l ck).uqV (min u k):=by
  unfold uqA Tb.uqV
  by_cases h0:u=0
  ·rw [if_pos h0,h0,Nat.zero_min];rfl
  ·rw [if_neg h0]
   obtain ⟨m,hm⟩:∃ m,min u k=m+1:=⟨min u k - 1,by omega⟩
   rw [hm]
   show PV.slice 1 (subDL _ _)=PV.slice 1 _
   congr 1
   rw [subDL_map,List.map_map]
   rfl
 have hlk:subD (nuL (tL n mv xs k cv (wX ck))) (lkA l)=(tbOf n xs k key u l ck).lkV l:=by
  obtain ⟨c1,c2⟩:=wthn_range (w6' (w6' (n.tdiv 512)+0)) k (by omega) (by omega)
  obtain ⟨d1,d2⟩:=wthn_range (w6' (w6' (n.tdiv 512)+1)) k (by omega) (by omega)
  have ea:(((wthn (w6' (w6' (n.tdiv 512)+0)) k).toNat:Nat):Int)=wthn (w6' (w6' (n.tdiv 512)+0)) k:=by omega
  have eb:(((wthn (w6' (w6' (n.tdiv 512)+1)) k).toNat:Nat):Int)=wthn (w6' (w6' (n.tdiv 512)+1)) k:=by omega
  have:l=0∨l=1∨l=2:=by omega
  rcases this with rfl|rfl|rfl
  ·rfl
  ·show PV.slice 2 [.agg [nI (wthn (w6' (w6' (n.tdiv 512)+0)) k), .str (nameL (w6' (w6' (n.tdiv 1024)+0)))]]=PV.slice 2 [.agg [nI (((wthn (w6' (w6' (n.tdiv 512)+0)) k).toNat:Nat):Int), .str (nameL (w6' (w6' (n.tdiv 1024)+0)))]]
   rw [ea]
  ·show PV.slice 2 [.agg [nI (wthn (w6' (w6' (n.tdiv 512)+0)) k), .str (nameL (w6' (w6' (n.tdiv 1024)+0)))], .agg [nI (wthn (w6' (w6' (n.tdiv 512)+1)) k), .str (nameL (w6' (w6' (n.tdiv 1024)+1)))]]=PV.slice 2 [.agg [nI (((wthn (w6' (w6' (n.tdiv 512)+0)) k).toNat:Nat):Int), .str (nameL (w6' (w6' (n.tdiv 1024)+0)))], .agg [nI (((wthn (w6' (w6' (n.tdiv 512)+1)) k).toNat:Nat):Int), .str (nameL (w6' (w6' (n.tdiv 1024)+1)))]]
   rw [ea,eb]
 show PV.agg (subDL _ (([.atom 4, .slice 3 ((List.range k).map (colA (min xs.length k) key)),nI key,uqA k key u]:List PV)++(eaL 60++[lkA l])))=_
 rw [subDL_app,subDL_app]
 show PV.agg ([PV.str (nameL n), .slice 3 (subDL _ _),nI key,subD _ (uqA k key u)]++((wX ck).L++[subD _ (lkA l)]))=_
 rw [hcol,huq,hlk]
 rfl
theorem table_ev (n:Int) {mv:PV} {xs:List Int} (hmv:mv = .slice 1 (xs.map (.int .i64))∨(mv = .nilslice∧xs=[])) {cv:PV} (hc:(cv.clean&&cv.pure)=true∧cv.one=true) {ck:Option Xp} (hck:∀ e,ck=some e→XpOk e) (hone:Ev PG f_l3_One [cv] (wX ck).pv) :
  ∃ b:Tb,b.Wf∧Ev PG f_l3_Table [nI n,mv,cv] (.agg b.val):=by
 obtain ⟨a1,a2⟩:=wthn_range (w6' (n.tdiv 4)) 4 (by decide) (by decide)
 obtain ⟨k,hk⟩:∃ k:Nat,wthn (w6' (n.tdiv 4)) 4=(k:Int) - 1:=⟨(wthn (w6' (n.tdiv 4)) 4).toNat+1,by omega⟩
 have hk4:1≤k∧k≤4:=by omega
 obtain ⟨b1,b2⟩:=wthn_range (w6' (n.tdiv 16)) k (by omega) (by omega)
 obtain ⟨key,hkey⟩:∃ j:Nat,wthn (w6' (n.tdiv 16)) k=j:=⟨(wthn (w6' (n.tdiv 16)) k).toNat,by omega⟩
 obtain ⟨c1,c2⟩:=wthn_range (w6' (n.tdiv 64)) 3 (by decide) (by decide)
 obtain ⟨u,hu⟩:∃ j:Nat,wthn (w6' (n.tdiv 64)) 3=j:=⟨(wthn (w6' (n.tdiv 64)) 3).toNat,by omega⟩
 obtain ⟨d1,d2⟩:=wthn_range (w6' (n.tdiv 256)) 3 (by decide) (by decide)
 obtain ⟨l,hl⟩:∃ j:Nat,wthn (w6' (n.tdiv 256)) 3=j:=⟨(wthn (w6' (n.tdiv 256)) 3).toNat,by omega⟩
 have hf:=tFacts_ok n hmv k (min xs.length k) key u l hone hk4 rfl hk hkey hu hl (by omega)
 have hr:=okR_eq (table_k k (min xs.length k) key u l hk4 (by omega) (by omega) (by omega) (by omega))
 have hs:=sub_tabA n mv xs cv ck (key:=key) (u:=u) hk4 (show l < 3 by omega)
 refine ⟨tbOf n xs k key u l ck,tbOf_wf n xs hk4 (by omega) (by omega) (by omega) hck,?_⟩
 rw [← hs]
 have hg:=ints_good hmv
 simp only [Bool.and_eq_true] at hg
 have hc1:=hc.1
 simp only [Bool.and_eq_true] at hc1
 refine Ev.facts prog_ok (tL_ok n hmv k hc.1 (wX_ok ck)) hr hf ?_ (by
  rw [hs,Bool.and_eq_true]
  refine ⟨val_pure _,List.all_eq_true.2 fun p hp=>?_⟩
  have:=List.all_eq_true.1 (val_good _) p hp
  rw [Bool.and_eq_true] at this
  exact this.1)
 show ((true&&true)&&true&&(((mv.pure&&mv.one)&&true)&&(((cv.pure&&cv.one)&&true)&&true)))=true
 rw [hg.1.2,hg.2,hc1.2,hc.2];rfl
end Go.Proofs.YtdlkibeljkapeaaGreatDoor.Den
namespace Go.Proofs.YtdlkibeljkapeaaGreatDoor.Den
open Go Go.RowKit
open Go.Proofs.YtdlkibeljkapeaaGreatDoor.B
noncomputable abbrev smK (k:Nat) (r:PV) (fs:List Fact):Bool:=okR r (callF PG (fOrc noOwn (.prim f_l3_within [.atom 0,nI 8] (nI k)::fs)) 30 f_l3_Stmt [.atom 0, .atom 1, .atom 2, .atom 3, .atom 4, .atom 5] [])
def tbA80:List PV:=(List.range 12).map fun i=>.atom (80+i)
theorem sm_cre:smK 0 (stmtP (nI 1) tbA80 (.str []) (.str []) (.str []) .nilslice E7.zero.L E7.zero.L) [.prim f_l3_Table [.atom 1, .atom 2, .atom 5] (.agg tbA80)]=true:=by kernel_rfl
abbrev nmFa:Fact:=.prim f_l3_Name [.atom 1] (.atom 6)
theorem sm_drop:smK 1 (stmtP (nI 2) tableZ (.atom 6) (.str []) (.str []) .nilslice E7.zero.L E7.zero.L) [nmFa]=true:=by kernel_rfl
theorem sm_link:((List.range 6).all fun c=>smK 2 (stmtP (nI 3) tableZ (.atom 6) (.str (colsL.getD c [])) (.atom 9) .nilslice E7.zero.L E7.zero.L) [nmFa,oI .quo (.atom 1) (nI 4) (.atom 7), .prim f_l3_within [.atom 7,nI 6] (nI c),oI .quo (.atom 1) (nI 24) (.atom 8), .prim f_l3_Name [.atom 8] (.atom 9)])=true:=by kernel_rfl
def siF (c L:Nat):List Fact:=[nmFa,oI .quo (.atom 1) (nI 4) (.atom 7), .prim f_l3_within [.atom 7,nI 5] (nI c), .op (.len ty_sl_int) [.atom 2] (.atom 10)] ++
 ((List.range L).flatMap (fun (i:Nat)=>[oI .lss (nI i) (.atom 10) (.bool true), .op (.ix ty_sl_int) [.atom 2,nI i] (.ref [.atom (20+i)]), .prim f_l3_within [.atom (20+i),nI 1073741824] (.atom (25+i)),oI .quo (.atom (25+i)) (nI 50) (.atom (30+i)),oI .sub (.atom (30+i)) (nI 1000) (.atom (35+i)), .prim f_l1_Make [.atom (25+i), .atom (35+i), .atom 3] (v4A (160+4*i))]) ++
 (List.range (c+1 - L)).flatMap (fun (j:Nat)=>[oI .lss (nI (L+j:Nat)) (.atom 10) (.bool false), .prim f_l1_Make [nI (L+j:Nat),nI (-1000), .atom 3] (v4A (160+4*(L+j)))]))
theorem sm_ins:((List.range 5).all fun c=>(List.range (c+2)).all fun L=>smK 3 (stmtP (nI 4) tableZ (.atom 6) (.str []) (.str []) (.slice 4 ((List.range (c+1)).map fun m=>v4A (160+4*m))) E7.zero.L E7.zero.L) (siF c L))=true:=by kernel_rfl
theorem sm_upd:((List.range 6).all fun c=>smK 4 (stmtP (nI 5) tableZ (.atom 6) (.str (colsL.getD c [])) (.str []) .nilslice (eaL 60) (eaL 70)) [nmFa,oI .quo (.atom 1) (nI 4) (.atom 7), .prim f_l3_within [.atom 7,nI 6] (nI c), .prim f_l3_Some [.atom 5] (eA 60), .prim f_l3_One [.atom 4] (eA 70)])=true:=by kernel_rfl
theorem sm_q:((List.range 3).all fun c=>smK (5+c) (stmtP (nI (6+c:Nat)) tableZ (.atom 6) (.str []) (.str []) .nilslice E7.zero.L (eaL 70)) [nmFa, .prim f_l3_One [.atom 4] (eA 70)])=true:=by kernel_rfl
end Go.Proofs.YtdlkibeljkapeaaGreatDoor.Den
namespace Go.Proofs.YtdlkibeljkapeaaGreatDoor.Den
open Go Go.RowKit
open Go.Proofs.YtdlkibeljkapeaaGreatDoor.B
def smNu (kd n : Int) (mv : PV) (xs : List Int) (s : List UInt8) (wv cv : PV) (E W : E7) (T : List PV) (V : Nat → V4) : List PV :=
  [nI kd, nI n, mv, .str s, wv, cv, .str (nameL n), nI (w6' (n.tdiv 4)), nI (w6' (n.tdiv 24)), .str (nameL (w6' (n.tdiv 24))), nI xs.length, nI 0, nI 0, nI 0, nI 0, nI 0, nI 0, nI 0, nI 0, nI 0,
   nI (xs.getD 0 0), nI (xs.getD 1 0), nI (xs.getD 2 0), nI (xs.getD 3 0), nI (xs.getD 4 0), nI (tM xs 0), nI (tM xs 1), nI (tM xs 2), nI (tM xs 3), nI (tM xs 4),
   nI (w6' ((tM xs 0).tdiv 50)), nI (w6' ((tM xs 1).tdiv 50)), nI (w6' ((tM xs 2).tdiv 50)), nI (w6' ((tM xs 3).tdiv 50)), nI (w6' ((tM xs 4).tdiv 50)),
   nI (w6' (w6' ((tM xs 0).tdiv 50) - 1000)), nI (w6' (w6' ((tM xs 1).tdiv 50) - 1000)), nI (w6' (w6' ((tM xs 2).tdiv 50) - 1000)), nI (w6' (w6' ((tM xs 3).tdiv 50) - 1000)), nI (w6' (w6' ((tM xs 4).tdiv 50) - 1000))] ++
  (List.replicate 20 (nI 0) ++ (E.L ++ ([nI 0, nI 0, nI 0] ++ (W.L ++ ([nI 0, nI 0, nI 0] ++ (T ++ (List.replicate 68 (nI 0) ++ (v4L (V 0) ++ (v4L (V 1) ++ (v4L (V 2) ++ (v4L (V 3) ++ v4L (V 4))))))))))))
def goodA (p:PV):Prop:=(p.clean&&p.pure)=true∧p.one=true
theorem smNu_ok {kd n:Int} {mv:PV} {xs:List Int} {s:List UInt8} {wv cv:PV} {E W:E7} {T:List PV} {V:Nat→V4} (h1:goodA mv) (h2:goodA wv) (h3:goodA cv) (hE:E.ok=true) (hW:W.ok=true) (hT:(T.all fun p=>p.clean&&p.pure)=true):NuOk (nuL (smNu kd n mv xs s wv cv E W T V)):=by
 refine nuL_okB ?_
 unfold smNu
 have e1:(E.L.all fun p=>p.clean&&p.pure)=true:=hE
 have e2:(W.L.all fun p=>p.clean&&p.pure)=true:=hW
 simp only [List.all_append,e1,e2,hT]
 simp only [List.all_cons,h1.1,h2.1,h3.1]
 rfl
theorem sm_args {nu:Nat→PV} {kd n:Int} {mv:PV} {s:List UInt8} {wv cv:PV} (h1:goodA mv) (h2:goodA wv) (h3:goodA cv) (e0:nu 0=nI kd) (e1:nu 1=nI n) (e2:nu 2=mv) (e3:nu 3 = .str s) (e4:nu 4=wv) (e5:nu 5=cv) :
  ([PV.atom 0, .atom 1, .atom 2, .atom 3, .atom 4, .atom 5].all fun p=>argB nu p&&p.shut)=true:=by
 have a1:=h1.1
 have a2:=h2.1
 have a3:=h3.1
 simp only [Bool.and_eq_true] at a1 a2 a3
 simp only [List.all_cons,List.all_nil,argB,subD,oneB,e0,e1,e2,e3,e4,e5,a1.2,a2.2,a3.2,h1.2,h2.2,h3.2]
 rfl
theorem raws_goodA (nl:Nat) (l:List RawT):goodA (rawsP nl l):=by
 have h:=raws_good nl l
 exact ⟨by rw [h.1,h.2.1];rfl,h.2.2⟩
theorem one_w {nl:Nat} {l:List RawT} (hn:nlOk nl l) (ho:RawT.oks l) (h:fewB l=true):∃ w:Option Xp,WhOk w∧Ev PG f_l3_One [rawsP nl l] (wX w).pv:=by
 rcases one_ev hn ho h with ⟨_,h⟩|⟨_,e,he,h⟩
 ·exact ⟨none,(by intro e h;cases h),h⟩
 ·exact ⟨some e,(by intro e' h';cases h';exact he),h⟩
theorem cols_nm:∀ c,c < 6→wdB (colsL.getD c [])=true∧keysL.contains (colsL.getD c [])=false:=by decide +kernel
theorem wK (n:Int) (m:Int) (h0:0 < m) (h1:m≤1000):∃ k:Nat,(k:Int) < m∧Ev PG f_l3_within [nI n,nI m] (nI k):=by
 obtain ⟨k,h2,h3⟩:=wN n m h0 h1
 have:=within3_ev n m (by omega)
 rw [h2] at this
 exact ⟨k,h3,this⟩
set_option maxRecDepth 40000 in
set_option maxHeartbeats 4000000 in
theorem stmt_ev (kd n:Int) {mv:PV} {xs:List Int} (hmv:mv = .slice 1 (xs.map (.int .i64))∨(mv = .nilslice∧xs=[])) {s:List UInt8} (hs:s.length≤1000) {wn:Nat} {wl:List RawT} (hwn:nlOk wn wl) (hwo:RawT.oks wl) (hwf:fewB wl=true) {cn:Nat} {cl:List RawT} (hcn:nlOk cn cl) (hco:RawT.oks cl) (hcf:fewB cl=true) :
  ∃ x:Sx,x.wf∧Ev PG f_l3_Stmt [nI kd,nI n,mv, .str s,rawsP wn wl,rawsP cn cl] x.pv:=by
 obtain ⟨k,hk8,hwk⟩:=wK kd 8 (by decide) (by decide)
 have gm:goodA mv:=ints_good hmv
 have gw:=raws_goodA wn wl
 have gc:=raws_goodA cn cl
 obtain ⟨w,hw,hwe⟩:=one_w hwn hwo hwf
 obtain ⟨ck,hck,hce⟩:=one_w hcn hco hcf
 obtain ⟨e,he,hse⟩:=some_ev hcn hco hcf
 obtain ⟨b,hb,hbe⟩:=table_ev n hmv gc hck hce
 have hnm:=name_ev n
 have hnmo:=name_ok n
 have h4 : -9223372036854775808≤n∨True:=.inr trivial
 have hz12:((List.replicate 12 (nI 0)).all fun p=>p.clean&&p.pure)=true:=rfl
 have c8:k=0∨k=1∨k=2∨k=3∨k=4∨k=5∨k=6∨k=7:=by omega
 rcases c8 with rfl|rfl|rfl|rfl|rfl|rfl|rfl|rfl
 ·refine ⟨.cre b,hb,?_⟩
  have hnu:NuOk (nuL (smNu kd n mv xs s (rawsP wn wl) (rawsP cn cl) E7.zero E7.zero b.val (fun _=>v0))):=smNu_ok gm gw gc rfl rfl (val_good b)
  have hp:=sx_pure (x:=.cre b)
  exact Ev.facts (args:=[.atom 0, .atom 1, .atom 2, .atom 3, .atom 4, .atom 5]) prog_ok hnu (okR_eq sm_cre) ⟨fprim hwk rfl rfl rfl,fprim hbe rfl rfl rfl,trivial⟩ (sm_args gm gw gc rfl rfl rfl rfl rfl rfl) hp
 ·have hnu:NuOk (nuL (smNu kd n mv xs s (rawsP wn wl) (rawsP cn cl) E7.zero E7.zero (List.replicate 12 (nI 0)) (fun _=>v0))):=smNu_ok gm gw gc rfl rfl rfl
  exact ⟨.drop (nameL n),hnmo,Ev.facts (args:=[.atom 0, .atom 1, .atom 2, .atom 3, .atom 4, .atom 5]) prog_ok hnu (okR_eq sm_drop) ⟨fprim hwk rfl rfl rfl,fprim hnm rfl rfl rfl,trivial⟩ (sm_args gm gw gc rfl rfl rfl rfl rfl rfl) rfl⟩
 ·obtain ⟨c,hc,hwc⟩:=wK (w6' (n.tdiv 4)) 6 (by decide) (by decide)
  have hnu:NuOk (nuL (smNu kd n mv xs s (rawsP wn wl) (rawsP cn cl) E7.zero E7.zero (List.replicate 12 (nI 0)) (fun _=>v0))):=smNu_ok gm gw gc rfl rfl rfl
  have hcol:=cols_nm c (by omega)
  exact ⟨.link (nameL n) (colsL.getD c []) (nameL (w6' (n.tdiv 24))),⟨hnmo,⟨hcol.1,hcol.2⟩,name_ok _⟩,Ev.facts (args:=[.atom 0, .atom 1, .atom 2, .atom 3, .atom 4, .atom 5]) prog_ok hnu (okR_eq (List.all_eq_true.1 sm_link c (by rw [List.mem_range];omega)))
   ⟨fprim hwk rfl rfl rfl,fprim hnm rfl rfl rfl,fInt rfl rfl rfl rfl (by decide) rfl,fprim hwc rfl rfl rfl,fInt rfl rfl rfl rfl (by decide) rfl,fprim (name_ev _) rfl rfl rfl,trivial⟩ (sm_args gm gw gc rfl rfl rfl rfl rfl rfl) rfl⟩
 ·obtain ⟨c,hc,hwc⟩:=wK (w6' (n.tdiv 4)) 5 (by decide) (by decide)
  have hmk:∀ i,∃ q:V4 × List UInt8,i < 5→LitOk q.1 q.2∧nobl q.2∧(if i < xs.length then Ev PG f_l1_Make [nI (tM xs i),nI (w6' (w6' ((tM xs i).tdiv 50) - 1000)), .str s] (Den.vP q.1) else Ev PG f_l1_Make [nI i,nI (-1000), .str s] (Den.vP q.1)):=fun i=>by
   by_cases hi:i < 5
   ·by_cases hx:i < xs.length
    ·have hp:=tM_pos xs i
     have h50:(tM xs i).tdiv 50=tM xs i / 50:=Int.tdiv_eq_ediv_of_nonneg hp.1
     have e1:w6' ((tM xs i).tdiv 50)=tM xs i / 50:=by rw [h50];exact w6_id' (by omega) (by omega)
     have e2:w6' (w6' ((tM xs i).tdiv 50) - 1000)=tM xs i / 50 - 1000:=by rw [e1];exact w6_id' (by omega) (by omega)
     obtain ⟨N,S,st,hm,hev⟩:=makeB_ev (tM xs i) (w6' (w6' ((tM xs i).tdiv 50) - 1000)) s (by unfold I64;omega) (by rw [e2];unfold I64;omega) (by omega)
     obtain ⟨t,ht,hnb⟩:=made_lit hm hm.v.i
     exact ⟨(_,t),fun _=>⟨ht,hnb,by rw [if_pos hx];exact hev⟩⟩
    ·obtain ⟨N,S,st,hm,hev⟩:=makeB_ev (i:Int) (-1000) s (by unfold I64;omega) (by unfold I64;omega) (by omega)
     obtain ⟨t,ht,hnb⟩:=made_lit hm hm.v.i
     exact ⟨(_,t),fun _=>⟨ht,hnb,by rw [if_neg hx];exact hev⟩⟩
   ·exact ⟨(v0,[]),fun h=>absurd h hi⟩
  obtain ⟨Q,hQ⟩:=Classical.axiomOfChoice hmk
  have hnu:NuOk (nuL (smNu kd n mv xs s (rawsP wn wl) (rawsP cn cl) E7.zero E7.zero (List.replicate 12 (nI 0)) (fun i=>(Q i).1))):=smNu_ok gm gw gc rfl rfl rfl
  obtain ⟨L,hL⟩:∃ L,L=min xs.length (c+1):=⟨_,rfl⟩
  have hc5:c < 5:=by omega
  have hkk:=okR_eq (List.all_eq_true.1 (List.all_eq_true.1 sm_ins c (by rw [List.mem_range];omega)) L (by rw [List.mem_range];omega))
  have hf:FactsOk PG (nuL (smNu kd n mv xs s (rawsP wn wl) (rawsP cn cl) E7.zero E7.zero (List.replicate 12 (nI 0)) (fun i=>(Q i).1))) (.prim f_l3_within [.atom 0,nI 8] (nI 3)::siF c L):=by
   refine ⟨fprim hwk rfl rfl rfl,?_⟩
   unfold siF
   refine FactsOk.append ⟨fprim hnm rfl rfl rfl,fInt rfl rfl rfl rfl (by decide) rfl,fprim hwc rfl rfl rfl,fLen hmv rfl rfl,trivial⟩ (FactsOk.append (FactsOk.of ?_) (FactsOk.of ?_))
   ·intro f hf
    obtain ⟨i,hi,hf⟩:=List.mem_flatMap.1 hf
    rw [List.mem_range] at hi
    have hx:i < xs.length:=by omega
    have h5:i=0∨i=1∨i=2∨i=3∨i=4:=by omega
    have hlt:((i:Nat):Int) < (xs.length:Int):=by omega
    have hw:=within3_ev (xs.getD i 0) 1073741824 (by decide)
    have hq:=(hQ i (by omega)).2.2
    rw [if_pos hx] at hq
    simp only [List.mem_cons,List.not_mem_nil,or_false] at hf
    rcases hf with rfl|rfl|rfl|rfl|rfl|rfl
    ·exact fCmp (c:=true) (a:=i) (b:=xs.length) rfl rfl rfl (by simp [intP,hlt]) (by decide) rfl
    ·rcases h5 with rfl|rfl|rfl|rfl|rfl<;>exact fIx hmv hx rfl rfl rfl
    ·rcases h5 with rfl|rfl|rfl|rfl|rfl<;>exact fprim hw rfl rfl rfl
    ·rcases h5 with rfl|rfl|rfl|rfl|rfl<;>exact fInt rfl rfl rfl rfl (by decide) rfl
    ·rcases h5 with rfl|rfl|rfl|rfl|rfl<;>exact fInt rfl rfl rfl rfl (by decide) rfl
    ·rcases h5 with rfl|rfl|rfl|rfl|rfl<;>exact fprim hq rfl rfl rfl
   ·intro f hf
    obtain ⟨j,hj,hf⟩:=List.mem_flatMap.1 hf
    rw [List.mem_range] at hj
    have hx:¬ L+j < xs.length:=by omega
    have hge:¬ ((L+j:Nat):Int) < (xs.length:Int):=by omega
    have hq:=(hQ (L+j) (by omega)).2.2
    rw [if_neg hx] at hq
    obtain ⟨i,hi⟩:∃ i,i=L+j:=⟨_,rfl⟩
    rw [← hi] at hf hge hq
    have h5:i=0∨i=1∨i=2∨i=3∨i=4:=by omega
    simp only [List.mem_cons,List.not_mem_nil,or_false] at hf
    rcases hf with rfl|rfl
    ·exact fCmp (c:=false) (a:=(i:Nat)) (b:=xs.length) rfl rfl rfl (by simp only [intP];rw [decide_eq_false hge]) (by decide) rfl
    ·clear hi
     rcases h5 with rfl|rfl|rfl|rfl|rfl<;>exact fprim hq rfl rfl rfl
  refine ⟨.ins (nameL n) ((List.range (c+1)).map Q),⟨hnmo,by simp,by simp;omega,fun v hv=>?_⟩,?_⟩
  ·obtain ⟨i,hi,rfl⟩:=List.mem_map.1 hv
   rw [List.mem_range] at hi
   have:=hQ i (by omega)
   exact ⟨this.1,this.2.1⟩
  ·have hrow:rowP ((List.range (c+1)).map Q) = .slice 4 ((List.range (c+1)).map fun m=>Den.vP (Q m).1):=by
    unfold rowP
    rw [List.map_map]
    rfl
   show Ev PG _ _ (stP 4 tableZ (nameL n) [] [] (rowP ((List.range (c+1)).map Q)) E7.zero E7.zero)
   rw [hrow]
   have hcc:c=0∨c=1∨c=2∨c=3∨c=4:=by omega
   clear hrow hQ hmk hL
   rcases hcc with rfl|rfl|rfl|rfl|rfl
   all_goals exact Ev.facts (args:=[.atom 0, .atom 1, .atom 2, .atom 3, .atom 4, .atom 5]) prog_ok hnu hkk hf (sm_args gm gw gc rfl rfl rfl rfl rfl rfl) rfl
 ·obtain ⟨c,hc,hwc⟩:=wK (w6' (n.tdiv 4)) 6 (by decide) (by decide)
  have hnu:NuOk (nuL (smNu kd n mv xs s (rawsP wn wl) (rawsP cn cl) e.e7 (wX w) (List.replicate 12 (nI 0)) (fun _=>v0))):=smNu_ok gm gw gc (e7_ok e) (wX_ok w) rfl
  have hcol:=cols_nm c (by omega)
  have hp:=sx_pure (x:=.upd (nameL n) (colsL.getD c []) e w)
  exact ⟨.upd (nameL n) (colsL.getD c []) e w,⟨hnmo,⟨hcol.1,hcol.2⟩,he,hw⟩,Ev.facts (args:=[.atom 0, .atom 1, .atom 2, .atom 3, .atom 4, .atom 5]) prog_ok hnu (okR_eq (List.all_eq_true.1 sm_upd c (by rw [List.mem_range];omega)))
   ⟨fprim hwk rfl rfl rfl,fprim hnm rfl rfl rfl,fInt rfl rfl rfl rfl (by decide) rfl,fprim hwc rfl rfl rfl,fprim hse rfl rfl rfl,fprim hwe rfl rfl rfl,trivial⟩ (sm_args gm gw gc rfl rfl rfl rfl rfl rfl) hp⟩
 ·have hnu:NuOk (nuL (smNu kd n mv xs s (rawsP wn wl) (rawsP cn cl) E7.zero (wX w) (List.replicate 12 (nI 0)) (fun _=>v0))):=smNu_ok gm gw gc rfl (wX_ok w) rfl
  exact ⟨.del (nameL n) w,⟨hnmo,hw⟩,Ev.facts (args:=[.atom 0, .atom 1, .atom 2, .atom 3, .atom 4, .atom 5]) prog_ok hnu (okR_eq (List.all_eq_true.1 sm_q 0 (by decide))) ⟨fprim hwk rfl rfl rfl,fprim hnm rfl rfl rfl,fprim hwe rfl rfl rfl,trivial⟩ (sm_args gm gw gc rfl rfl rfl rfl rfl rfl) (sx_pure (x:=.del (nameL n) w))⟩
 ·have hnu:NuOk (nuL (smNu kd n mv xs s (rawsP wn wl) (rawsP cn cl) E7.zero (wX w) (List.replicate 12 (nI 0)) (fun _=>v0))):=smNu_ok gm gw gc rfl (wX_ok w) rfl
  exact ⟨.slc (nameL n) w,⟨hnmo,hw⟩,Ev.facts (args:=[.atom 0, .atom 1, .atom 2, .atom 3, .atom 4, .atom 5]) prog_ok hnu (okR_eq (List.all_eq_true.1 sm_q 1 (by decide))) ⟨fprim hwk rfl rfl rfl,fprim hnm rfl rfl rfl,fprim hwe rfl rfl rfl,trivial⟩ (sm_args gm gw gc rfl rfl rfl rfl rfl rfl) (sx_pure (x:=.slc (nameL n) w))⟩
 ·have hnu:NuOk (nuL (smNu kd n mv xs s (rawsP wn wl) (rawsP cn cl) E7.zero (wX w) (List.replicate 12 (nI 0)) (fun _=>v0))):=smNu_ok gm gw gc rfl (wX_ok w) rfl
  exact ⟨.cou (nameL n) w,⟨hnmo,hw⟩,Ev.facts (args:=[.atom 0, .atom 1, .atom 2, .atom 3, .atom 4, .atom 5]) prog_ok hnu (okR_eq (List.all_eq_true.1 sm_q 2 (by decide))) ⟨fprim hwk rfl rfl rfl,fprim hnm rfl rfl rfl,fprim hwe rfl rfl rfl,trivial⟩ (sm_args gm gw gc rfl rfl rfl rfl rfl rfl) (sx_pure (x:=.cou (nameL n) w))⟩
end Go.Proofs.YtdlkibeljkapeaaGreatDoor.Den
namespace Go.Proofs.YtdlkibeljkapeaaGreatDoor.Den
open Go Go.RowKit
end Go.Proofs.YtdlkibeljkapeaaGreatDoor.Den
namespace Go.Proofs.YtdlkibeljkapeaaGreatDoor.Den
open Go Go.RowKit
end Go.Proofs.YtdlkibeljkapeaaGreatDoor.Den
namespace Go.Proofs.YtdlkibeljkapeaaGreatDoor.Den
open Go Go.RowKit
theorem valsT_len:∀ (vs:List (V4 × List UInt8)),(∀ v∈vs,LitOk v.1 v.2∧nobl v.2)→(valsT vs).length≤202*vs.length
 | [],_=>by simp [valsT]
 | [v],h=>by
  have:=(h v (by simp)).1.len
  show v.2.length≤_
  simp;omega
 | v::w::vs,h=>by
  have h1:=(h v (by simp)).1.len
  have ih:=valsT_len (w::vs) (fun x hx=>h x (by simp at hx ⊢;exact .inr hx))
  have k:(kw ", ").length=2:=by decide
  show (v.2++(kw ", " ++ valsT (w::vs))).length≤_
  rw [List.length_append,List.length_append,k]
  simp only [List.length_cons] at ih ⊢
  omega
theorem q_drop:(kw "drop").length=4:=by decide
theorem q_table:(kw "table").length=5:=by decide
theorem q_alter:(kw "alter").length=5:=by decide
theorem q_add:(kw "add").length=3:=by decide
theorem q_foreign:(kw "foreign").length=7:=by decide
theorem q_key:(kw "key").length=3:=by decide
theorem q_references:(kw "references").length=10:=by decide
theorem q_insert:(kw "insert").length=6:=by decide
theorem q_into:(kw "into").length=4:=by decide
theorem q_values:(kw "values").length=6:=by decide
theorem q_update:(kw "update").length=6:=by decide
theorem q_set:(kw "set").length=3:=by decide
theorem q_delete:(kw "delete").length=6:=by decide
theorem q_from:(kw "from").length=4:=by decide
theorem q_select:(kw "select").length=6:=by decide
theorem q_count:(kw "count").length=5:=by decide
theorem q_where:(kw "where").length=5:=by decide
set_option linter.unusedSimpArgs false in
theorem len_cre_ (b:Tb) (hx:(Sx.cre b).wf):(Sx.cre b).txt.length≤60000:=by
 have m2:(mkW 2).length=1:=rfl
 have m3:(mkW 3).length=1:=rfl
 have m6:(mkW 6).length=1:=rfl
 have m10:(mkW 10).length=1:=rfl
 have hW:∀ w,WhOk w→(pTxt (whP w)).length≤25700:=fun w h=>by rw [whT_eq];exact whT_len h
 show (pTxt b.pcs).length≤_
 rw [crT_eq hx]
 have h0:=hx.k
 have hu:=hx.u
 have hl:=hx.l
 have h1:=colsT_len hx b.k
 have h2:=uqsT_len hx b.u
 have h3:=lksT_len hx b.l
 have h4:=ckT_len hx
 have h5:=nm_len hx.nm
 have l1:(kw "create table ").length=13:=by decide
 have l2:(kw " (").length=2:=by decide
 have l3:(kw "primary key (").length=13:=by decide
 have l4:(kw ")").length=1:=by decide
 unfold Tb.crT Tb.md Tb.hd
 simp only [List.length_append,l1,l2,l3,l4,show (cnm b.key).length=1 from rfl]
 omega
set_option linter.unusedSimpArgs false in
theorem len_drop_ (nm:List UInt8) (hx:(Sx.drop nm).wf):(Sx.drop nm).txt.length≤60000:=by
 have m2:(mkW 2).length=1:=rfl
 have m3:(mkW 3).length=1:=rfl
 have m6:(mkW 6).length=1:=rfl
 have m10:(mkW 10).length=1:=rfl
 have hW:∀ w,WhOk w→(pTxt (whP w)).length≤25700:=fun w h=>by rw [whT_eq];exact whT_len h
 have h1:=nm_len hx
 have e0:(Sx.drop nm).txt=pTxt [(false,It.w (kw "drop")),(true, .w (kw "table")),(true, .w nm)]:=rfl
 rw [e0]
 simp only [pTxt,It.txt,sp,List.length_append,List.length_cons,List.length_nil,m2,m3,m6,m10,q_drop,q_table,q_alter,q_add,q_foreign,q_key,q_references,q_insert,q_into,q_values,q_update,q_set,q_delete,q_from,q_select,q_count,q_where]
 exact Nat.le_of_not_lt fun hh=>by omega
set_option linter.unusedSimpArgs false in
theorem len_link_ (nm col dst:List UInt8) (hx:(Sx.link nm col dst).wf):(Sx.link nm col dst).txt.length≤60000:=by
 have m2:(mkW 2).length=1:=rfl
 have m3:(mkW 3).length=1:=rfl
 have m6:(mkW 6).length=1:=rfl
 have m10:(mkW 10).length=1:=rfl
 have hW:∀ w,WhOk w→(pTxt (whP w)).length≤25700:=fun w h=>by rw [whT_eq];exact whT_len h
 have h1:=nm_len hx.1
 have h2:=nm_len hx.2.1
 have h3:=nm_len hx.2.2
 have e0:(Sx.link nm col dst).txt=pTxt [(false,It.w (kw "alter")),(true, .w (kw "table")),(true, .w nm),(true, .w (kw "add")),(true, .w (kw "foreign")),(true, .w (kw "key")),(true, .m 2),(false, .w col),(false, .m 3),(true, .w (kw "references")),(true, .w dst)]:=rfl
 rw [e0]
 simp only [pTxt,It.txt,sp,List.length_append,List.length_cons,List.length_nil,m2,m3,m6,m10,q_drop,q_table,q_alter,q_add,q_foreign,q_key,q_references,q_insert,q_into,q_values,q_update,q_set,q_delete,q_from,q_select,q_count,q_where]
 exact Nat.le_of_not_lt fun hh=>by omega
set_option linter.unusedSimpArgs false in
theorem len_ins_ (nm:List UInt8) (vs:List (V4 × List UInt8)) (hx:(Sx.ins nm vs).wf):(Sx.ins nm vs).txt.length≤60000:=by
 have m2:(mkW 2).length=1:=rfl
 have m3:(mkW 3).length=1:=rfl
 have m6:(mkW 6).length=1:=rfl
 have m10:(mkW 10).length=1:=rfl
 have hW:∀ w,WhOk w→(pTxt (whP w)).length≤25700:=fun w h=>by rw [whT_eq];exact whT_len h
 have h1:=nm_len hx.1
 have hv:=valsT_len vs hx.2.2.2
 have h5:=hx.2.2.1
 have e0:(Sx.ins nm vs).txt=pTxt ([(false,It.w (kw "insert")),(true, .w (kw "into")),(true, .w nm),(true, .w (kw "values")),(true, .m 2)]++(valsP false vs++[(false, .m 3)])):=rfl
 rw [e0]
 rw [pTxt_app,pTxt_app,valsT_eq vs false hx.2.1]
 simp only [pTxt,It.txt,sp,List.length_append,List.length_cons,List.length_nil,m2,m3,m6,m10,q_drop,q_table,q_alter,q_add,q_foreign,q_key,q_references,q_insert,q_into,q_values,q_update,q_set,q_delete,q_from,q_select,q_count,q_where]
 exact Nat.le_of_not_lt fun hh=>by omega
set_option linter.unusedSimpArgs false in
theorem len_upd_ (nm col:List UInt8) (e:Xp) (w:Option Xp) (hx:(Sx.upd nm col e w).wf):(Sx.upd nm col e w).txt.length≤60000:=by
 have m2:(mkW 2).length=1:=rfl
 have m3:(mkW 3).length=1:=rfl
 have m6:(mkW 6).length=1:=rfl
 have m10:(mkW 10).length=1:=rfl
 have hW:∀ w,WhOk w→(pTxt (whP w)).length≤25700:=fun w h=>by rw [whT_eq];exact whT_len h
 have h1:=nm_len hx.1
 have h2:=nm_len hx.2.1
 have h3:=hx.2.2.1.len
 have h4:=hW w hx.2.2.2
 have e0:(Sx.upd nm col e w).txt=pTxt ([(false,It.w (kw "update")),(true, .w nm),(true, .w (kw "set")),(true, .w col),(true, .m 6),(true, .x e)]++whP w):=rfl
 rw [e0]
 rw [pTxt_app]
 simp only [pTxt,It.txt,sp,List.length_append,List.length_cons,List.length_nil,m2,m3,m6,m10,q_drop,q_table,q_alter,q_add,q_foreign,q_key,q_references,q_insert,q_into,q_values,q_update,q_set,q_delete,q_from,q_select,q_count,q_where]
 exact Nat.le_of_not_lt fun hh=>by omega
set_option linter.unusedSimpArgs false in
theorem len_del_ (nm:List UInt8) (w:Option Xp) (hx:(Sx.del nm w).wf):(Sx.del nm w).txt.length≤60000:=by
 have m2:(mkW 2).length=1:=rfl
 have m3:(mkW 3).length=1:=rfl
 have m6:(mkW 6).length=1:=rfl
 have m10:(mkW 10).length=1:=rfl
 have hW:∀ w,WhOk w→(pTxt (whP w)).length≤25700:=fun w h=>by rw [whT_eq];exact whT_len h
 have h1:=nm_len hx.1
 have h4:=hW w hx.2
 have e0:(Sx.del nm w).txt=pTxt ([(false,It.w (kw "delete")),(true, .w (kw "from")),(true, .w nm)]++whP w):=rfl
 rw [e0]
 rw [pTxt_app]
 simp only [pTxt,It.txt,sp,List.length_append,List.length_cons,List.length_nil,m2,m3,m6,m10,q_drop,q_table,q_alter,q_add,q_foreign,q_key,q_references,q_insert,q_into,q_values,q_update,q_set,q_delete,q_from,q_select,q_count,q_where]
 exact Nat.le_of_not_lt fun hh=>by omega
set_option linter.unusedSimpArgs false in
theorem len_slc_ (nm:List UInt8) (w:Option Xp) (hx:(Sx.slc nm w).wf):(Sx.slc nm w).txt.length≤60000:=by
 have m2:(mkW 2).length=1:=rfl
 have m3:(mkW 3).length=1:=rfl
 have m6:(mkW 6).length=1:=rfl
 have m10:(mkW 10).length=1:=rfl
 have hW:∀ w,WhOk w→(pTxt (whP w)).length≤25700:=fun w h=>by rw [whT_eq];exact whT_len h
 have h1:=nm_len hx.1
 have h4:=hW w hx.2
 have e0:(Sx.slc nm w).txt=pTxt ([(false,It.w (kw "select")),(true, .m 10),(true, .w (kw "from")),(true, .w nm)]++whP w):=rfl
 rw [e0]
 rw [pTxt_app]
 simp only [pTxt,It.txt,sp,List.length_append,List.length_cons,List.length_nil,m2,m3,m6,m10,q_drop,q_table,q_alter,q_add,q_foreign,q_key,q_references,q_insert,q_into,q_values,q_update,q_set,q_delete,q_from,q_select,q_count,q_where]
 exact Nat.le_of_not_lt fun hh=>by omega
set_option linter.unusedSimpArgs false in
theorem len_cou_ (nm:List UInt8) (w:Option Xp) (hx:(Sx.cou nm w).wf):(Sx.cou nm w).txt.length≤60000:=by
 have m2:(mkW 2).length=1:=rfl
 have m3:(mkW 3).length=1:=rfl
 have m6:(mkW 6).length=1:=rfl
 have m10:(mkW 10).length=1:=rfl
 have hW:∀ w,WhOk w→(pTxt (whP w)).length≤25700:=fun w h=>by rw [whT_eq];exact whT_len h
 have h1:=nm_len hx.1
 have h4:=hW w hx.2
 have e0:(Sx.cou nm w).txt=pTxt ([(false,It.w (kw "select")),(true, .w (kw "count")),(false, .m 2),(false, .m 10),(false, .m 3),(true, .w (kw "from")),(true, .w nm)]++whP w):=rfl
 rw [e0]
 rw [pTxt_app]
 simp only [pTxt,It.txt,sp,List.length_append,List.length_cons,List.length_nil,m2,m3,m6,m10,q_drop,q_table,q_alter,q_add,q_foreign,q_key,q_references,q_insert,q_into,q_values,q_update,q_set,q_delete,q_from,q_select,q_count,q_where]
 exact Nat.le_of_not_lt fun hh=>by omega
theorem sx_txt_len {x:Sx} (hx:x.wf):x.txt.length≤60000:=by
 match x,hx with
 | .cre b,hx=>exact len_cre_ b hx
 | .drop nm,hx=>exact len_drop_ nm hx
 | .link nm col dst,hx=>exact len_link_ nm col dst hx
 | .ins nm vs,hx=>exact len_ins_ nm vs hx
 | .upd nm col e w,hx=>exact len_upd_ nm col e w hx
 | .del nm w,hx=>exact len_del_ nm w hx
 | .slc nm w,hx=>exact len_slc_ nm w hx
 | .cou nm w,hx=>exact len_cou_ nm w hx
end Go.Proofs.YtdlkibeljkapeaaGreatDoor.Den
namespace Go.Proofs.YtdlkibeljkapeaaGreatDoor.Den
open Go Go.RowKit
end Go.Proofs.YtdlkibeljkapeaaGreatDoor.Den
