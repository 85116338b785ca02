-- Written by drive.py and pack.py (programs of this proof's own) through the kit's printer; not trusted: Lean checks it.
import Derived.Test.YtdlkibeljkapeaaGreatDoorCSqlBlanks3
namespace Go.Proofs.YtdlkibeljkapeaaGreatDoor.Den
open Go Go.RowKit
def numZ (l:List UInt8) (n:Int):Int:=l.foldl (fun n c=>10*n - ((c.toNat:Int) - 48)) n
theorem numZ_le:∀ (l:List UInt8) {n:Int},l.all isDigit=true→n≤0→numZ l n≤n
 | [],n,_,_=>Int.le_refl n
 | c::l,n,h,hn=>by
  simp only [List.all_cons,Bool.and_eq_true,isDigit,decide_eq_true_eq] at h
  have:=numZ_le l (n:=10*n - ((c.toNat:Int) - 48)) (by simpa [isDigit] using h.2) (by omega)
  show numZ l (10*n - ((c.toNat:Int) - 48))≤n
  omega
def meT:List (Nat × PV):=[(1, .atom 0),(4, .box 0 0),(7, .atom 1),(8, .atom 2),(9, .atom 3),(10, .atom 4),(32, .atom 5),(33, .atom 6)]
def meS:List Res:=[.box [nI 0,nI 0,nI 0, .str []]]
def meA (b:Bool):List Fact:=[oI .lss (.atom 6) (.atom 5) (.bool b)]
def meB:List Fact:=[.op (.index ty_string) [.atom 3, .atom 6] (.atom 7), .op (.bin .sub ty_uint8) [.atom 7, .int .u8 48] (.atom 8), .op (.conv ty_uint8 ty_int) [.atom 8] (.atom 9),oI .add (nI (-9223372036854775808)) (.atom 9) (.atom 10),oI .quo (.atom 10) (nI 10) (.atom 11),oI .lss (.atom 4) (.atom 11) (.bool false),
 oI .mul (nI 10) (.atom 4) (.atom 12),oI .sub (.atom 12) (.atom 9) (.atom 13),oI .add (.atom 6) (nI 1) (.atom 14)]
noncomputable abbrev meRun (fs:List Fact):Option (Ex × St):=execN PG (fOrc noOwn fs) (callF PG (fOrc noOwn fs) 5) ((fOrc noOwn fs).loop f_sql_meant) 5 3 (loopAt PG f_sql_meant 9) ⟨meT,meS⟩
theorem me_lone:loneB PG f_sql_meant 9=true:=by kernel_rfl
theorem me_a:runsB (meRun (meA false)) (.exit 0) [(1, .atom 0),(4, .box 0 0),(7, .atom 1),(8, .atom 2),(10, .atom 4)] meS=true:=by kernel_rfl
theorem me_b:runsB (meRun (meA true++meB)) .normal [(1, .atom 0),(4, .box 0 0),(7, .atom 1),(8, .atom 2),(9, .atom 3),(10, .atom 13),(32, .atom 5),(33, .atom 14)] meS=true:=by kernel_rfl
theorem fU8Int {nu:Nat→PV} {x r:PV} {n:Int} (h1:subD nu x = .int .u8 n) (h2:subD nu r=nI n) (hn : -9223372036854775808≤n∧n≤9223372036854775807) (h3:oneB nu r=true):FactOk PG nu (.op (.conv ty_uint8 ty_int) [x] r):=by
 refine ⟨?_,h3⟩
 show convP PG ty_uint8 ty_int (subD nu x)=some (subD nu r)
 rw [h1,h2]
 have e1:PG.underlying ty_uint8=some (.int .u8):=by kernel_rfl
 have e2:PG.underlying ty_int=some (.int .i64):=by kernel_rfl
 unfold convP
 rw [e1,e2]
 show some (PV.int .i64 (IntKind.i64.wrap n))=_
 rw [w6_id hn.1 hn.2]
def meNu (b q:Bool) (p all:List UInt8) (n:Int) (i:Nat) (c:UInt8):List PV :=
 [.bool b, .str p, .bool q, .str all,nI n,nI all.length,nI i,nB c, .int .u8 ((c.toNat:Int) - 48),nI ((c.toNat:Int) - 48),nI (-9223372036854775808+((c.toNat:Int) - 48)),nI ((-9223372036854775808+((c.toNat:Int) - 48)).tdiv 10),nI (10*n),nI (10*n - ((c.toNat:Int) - 48)),nI (i+1:Nat)]
set_option maxRecDepth 20000 in
theorem me_loop (b q:Bool) (p:List UInt8) {all:List UInt8} (hs:all.length≤19):∀ (l:List UInt8) (n:Int) (i:Nat),all.drop i=l→i≤all.length→l.all isDigit=true→n≤0→-9223372036854775808≤numZ l n →
  RunsR PG (ntOf PG f_sql_meant) (loopAt PG f_sql_meant 9) [(1, .bool b),(4, .box 0 0),(7, .str p),(8, .bool q),(9, .str all),(10,nI n),(32,nI all.length),(33,nI i)] meS (.exit 0) [(1, .bool b),(4, .box 0 0),(7, .str p),(8, .bool q),(10,nI (numZ l n))] meS:=by
 intro l
 induction l with
 | nil =>
  intro n i hi h1 _ _ _
  have hlen:all.length≤i:=by
   have:=congrArg List.length hi
   simp at this;omega
  refine RunsR.leave ?_ (fun h=>by cases h)
  exact RunsP.chk (nu:=nuL (meNu b q p all n i 0)) prog_ok (nuL_okB rfl) (T:=meT) (s:=meS) (T':=[(1, .atom 0),(4, .box 0 0),(7, .atom 1),(8, .atom 2),(10, .atom 4)]) (s':=meS) me_lone me_a
   ⟨fCmp (c:=false) (a:=i) (b:=all.length) rfl rfl rfl (by simp only [intP];rw [decide_eq_false (by omega)]) (by decide) rfl,trivial⟩ rfl rfl rfl
 | cons c l ih =>
  intro n i hi h1 hd hn hb
  have hx:all[i]? = some c:=by
   have:=congrArg (fun z=>z[0]?) hi
   simpa using this
  have hil:i < all.length:=(List.getElem?_eq_some_iff.1 hx).1
  have hl:all.drop (i+1)=l:=by
   have:=congrArg List.tail hi
   simpa using this
  simp only [List.all_cons,Bool.and_eq_true] at hd
  have hdc:=hd.1
  simp only [isDigit,Bool.and_eq_true,decide_eq_true_eq] at hdc
  have hb' : -9223372036854775808≤numZ l (10*n - ((c.toNat:Int) - 48)):=hb
  have hle:=numZ_le l hd.2 (n:=10*n - ((c.toNat:Int) - 48)) (by omega)
  have hr:=ih (10*n - ((c.toNat:Int) - 48)) (i+1) hl (by omega) hd.2 (by omega) hb'
  refine RunsR.round ?_ hr
  have ht:(-9223372036854775808+((c.toNat:Int) - 48)).tdiv 10 = -((9223372036854775808 - ((c.toNat:Int) - 48)) / 10):=by
   rw [show (-9223372036854775808+((c.toNat:Int) - 48)) = -(9223372036854775808 - ((c.toNat:Int) - 48)) by omega,Int.neg_tdiv,Int.tdiv_eq_ediv_of_nonneg (by omega)]
  have e1:IntKind.i64.wrap (-9223372036854775808+((c.toNat:Int) - 48)) = -9223372036854775808+((c.toNat:Int) - 48):=w6_id (by omega) (by omega)
  have e2:IntKind.i64.wrap ((-9223372036854775808+((c.toNat:Int) - 48)).tdiv 10)=(-9223372036854775808+((c.toNat:Int) - 48)).tdiv 10:=w6_id (by rw [ht];omega) (by rw [ht];omega)
  have e3:IntKind.i64.wrap (10*n)=10*n:=w6_id (by omega) (by omega)
  have e4:IntKind.i64.wrap (10*n - ((c.toNat:Int) - 48))=10*n - ((c.toNat:Int) - 48):=w6_id (by omega) (by omega)
  have e5:IntKind.i64.wrap ((i:Int)+1)=((i+1:Nat):Int):=by rw [w6_id (by omega) (by omega)];omega
  have e6:IntKind.u8.wrap ((c.toNat:Int) - 48)=(c.toNat:Int) - 48:=Go.IntWalk.u8_in _ ⟨by omega,by omega⟩
  have hlt:¬ n < (-9223372036854775808+((c.toNat:Int) - 48)).tdiv 10:=by rw [ht];omega
  exact RunsP.chk (nu:=nuL (meNu b q p all n i c)) prog_ok (nuL_okB rfl) (T:=meT) (s:=meS) (T':=[(1, .atom 0),(4, .box 0 0),(7, .atom 1),(8, .atom 2),(9, .atom 3),(10, .atom 13),(32, .atom 5),(33, .atom 14)]) (s':=meS) me_lone me_b
   (FactsOk.append ⟨fCmp (c:=true) (a:=i) (b:=all.length) rfl rfl rfl (by simp only [intP];rw [decide_eq_true (by omega)]) (by decide) rfl,trivial⟩
   ⟨fStrIx rfl rfl hx rfl rfl,fU8 (a:=c.toNat) (b:=48) (p:=.int .u8 ((c.toNat:Int) - 48)) rfl rfl (by simp only [intP];rw [e6]) rfl (by decide) rfl,fU8Int rfl rfl (by omega) rfl,fInt (a:=-9223372036854775808) (b:=(c.toNat:Int) - 48) rfl rfl rfl (by simp only [intP];rw [e1]) (by decide) rfl,
    fInt (a:=-9223372036854775808+((c.toNat:Int) - 48)) (b:=10) rfl rfl rfl (by simp [intP];rw [e2]) (by decide) rfl,fCmp (c:=false) rfl rfl rfl (by simp only [intP];rw [decide_eq_false hlt]) (by decide) rfl,
    fInt (a:=10) (b:=n) rfl rfl rfl (by simp only [intP];rw [e3]) (by decide) rfl,fInt (a:=10*n) (b:=(c.toNat:Int) - 48) rfl rfl rfl (by simp only [intP];rw [e4]) (by decide) rfl,fInt (a:=i) (b:=1) rfl rfl rfl (by simp only [intP];rw [e5]) (by decide) rfl,trivial⟩) rfl rfl rfl
end Go.Proofs.YtdlkibeljkapeaaGreatDoor.Den
namespace Go.Proofs.YtdlkibeljkapeaaGreatDoor.Den
open Go Go.RowKit
theorem index_no:∀ {w:List UInt8},w.all isDigit=true→Lib.index w [46] = -1
 | [],_=>rfl
 | c::l,h=>by
  simp only [List.all_cons,Bool.and_eq_true] at h
  have hc:([46]:List UInt8).isPrefixOf (c::l)=false:=by
   have h1:=h.1
   simp only [isDigit,Bool.and_eq_true,decide_eq_true_eq] at h1
   simp only [List.isPrefixOf,Bool.and_true,beq_eq_false_iff_ne]
   intro e;subst e;simp at h1
  unfold Lib.index
  rw [hc,index_no h.2]
  rfl
theorem index_at:∀ {w:List UInt8} (p:List UInt8),w.all isDigit=true→Lib.index (w++46::p) [46]=w.length
 | [],p,_=>by
  show Lib.index (46::p) [46]=0
  unfold Lib.index
  simp [List.isPrefixOf]
 | c::l,p,h=>by
  simp only [List.all_cons,Bool.and_eq_true] at h
  have hc:([46]:List UInt8).isPrefixOf (c::(l++46::p))=false:=by
   have h1:=h.1
   simp only [isDigit,Bool.and_eq_true,decide_eq_true_eq] at h1
   simp only [List.isPrefixOf,Bool.and_true,beq_eq_false_iff_ne]
   intro e;subst e;simp at h1
  show Lib.index (c::(l++46::p)) [46]=_
  unfold Lib.index
  rw [hc,index_at p h.2]
  have:((l.length:Int)==-1)=false:=by rw [beq_eq_false_iff_ne];omega
  simp [this]
theorem cut_no {w:List UInt8} (h:w.all isDigit=true):Lib.cut w [46]=(w,[],false):=by
 unfold Lib.cut
 rw [index_no h];rfl
theorem cut_at {w:List UInt8} (p:List UInt8) (h:w.all isDigit=true):Lib.cut (w++46::p) [46]=(w,p,true):=by
 unfold Lib.cut
 rw [index_at p h,if_pos (by omega),Int.toNat_natCast]
 simp
theorem numZ_pow:∀ (l:List UInt8) {n:Int},l.all isDigit=true→numZ l n≤10 ^ l.length*n
 | [],n,_=>by simp [numZ]
 | c::l,n,h=>by
  simp only [List.all_cons,Bool.and_eq_true] at h
  have h1:=h.1
  simp only [isDigit,Bool.and_eq_true,decide_eq_true_eq] at h1
  have:=numZ_pow l (n:=10*n - ((c.toNat:Int) - 48)) h.2
  have h3:(10:Int) ^ l.length*(10*n - ((c.toNat:Int) - 48))≤10 ^ l.length*(10*n):=Int.mul_le_mul_of_nonneg_left (by omega) (Int.pow_nonneg (by decide))
  have h4:(10:Int) ^ (l.length+1)*n=10 ^ l.length*(10*n):=by rw [Int.pow_succ,Int.mul_assoc]
  show numZ l (10*n - ((c.toNat:Int) - 48))≤10 ^ (l.length+1)*n
  rw [h4];omega
theorem trimL_all:∀ {l:List UInt8} {p:UInt8→Bool},l.all p=true→(trimL l).all p=true
 | [],_,_=>rfl
 | c::l,p,h=>by
  simp only [List.all_cons,Bool.and_eq_true] at h
  unfold trimL
  rw [List.dropWhile_cons]
  split
  ·exact trimL_all h.2
  ·simp [h.1,h.2]
theorem trimL_len:∀ {l:List UInt8},l.all isDigit=true→-9223372036854775808≤numZ (trimL l) 0→(trimL l).length≤19
 | [],_,_=>by simp [trimL]
 | c::l,h,hb=>by
  simp only [List.all_cons,Bool.and_eq_true] at h
  unfold trimL at hb ⊢
  rw [List.dropWhile_cons] at hb ⊢
  split
  ·rename_i hc
   rw [if_pos hc] at hb
   exact trimL_len h.2 hb
  ·rename_i hc
   rw [if_neg hc] at hb
   have h1:=h.1
   simp only [isDigit,Bool.and_eq_true,decide_eq_true_eq] at h1
   have h48:c.toNat≠48:=fun e=>hc (by rw [beq_iff_eq,← UInt8.toNat_inj];exact e)
   have hb' : -9223372036854775808≤numZ l (10*0 - ((c.toNat:Int) - 48)):=hb
   have h2:=numZ_pow l (n:=10*0 - ((c.toNat:Int) - 48)) h.2
   have h3:(10:Int) ^ l.length*(10*0 - ((c.toNat:Int) - 48))≤10 ^ l.length*(-1):=Int.mul_le_mul_of_nonneg_left (by omega) (Int.pow_nonneg (by decide))
   rcases Nat.lt_or_ge l.length 19 with hl|hl
   ·rw [List.length_cons];omega
   ·have h4:(10:Int) ^ 19≤10 ^ l.length:=by exact_mod_cast Nat.pow_le_pow_right (by decide) hl
    have h5:(10:Int) ^ 19=10000000000000000000:=by decide
    omega
end Go.Proofs.YtdlkibeljkapeaaGreatDoor.Den
namespace Go.Proofs.YtdlkibeljkapeaaGreatDoor.Den
open Go Go.RowKit
theorem i64eqL (a b:Int):intP .eql .i64 a b=some (.bool (a==b)):=rfl
def rdF2 (z:Bool):List Fact:=[oI .leq (.atom 0) (nI (-1000000000000000)) (.bool false),oI .geq (.atom 0) (nI 1000000000000000) (.bool false),oI .rem (.atom 0) (nI 10) (.atom 1),oI .eql (.atom 1) (nI 0) (.bool z)]
def rdE2 (k:Nat):List Fact:=[.op (.bin .eql ty_api_Value) [.agg [nI 3, .atom 0,nI k, .str []], .agg [nI 3, .atom 0,nI k, .str []]] (.bool true)]
theorem rd_k0:bl (fun z=>okR (.bool true) (callF PG (fOrc noOwn (rdF2 z++rdE2 0)) 10 f_val_Right [.agg [nI 3, .atom 0,nI 0, .str []]] []))=true:=by kernel_rfl
theorem rd_k1:((List.range 7).all fun k=>okR (.bool true) (callF PG (fOrc noOwn (rdF2 false++rdE2 k)) 10 f_val_Right [.agg [nI 3, .atom 0,nI k, .str []]] []))=true:=by kernel_rfl
theorem right_dec {n:Int} {k:Nat} (h1 : -1000000000000000 < n) (h2:n < 1000000000000000) (hk:k≤6) (h3:k=0∨n.tmod 10≠0):Ev PG f_val_Right [vP (3,n,k,[])] (.bool true):=by
 have hf:∀ z,(n.tmod 10==0)=z→FactsOk PG (nuL [nI n,nI (n.tmod 10)]) (rdF2 z++rdE2 k):=fun z hz =>
  FactsOk.append ⟨fCmp (c:=false) (a:=n) (b:=-1000000000000000) rfl rfl rfl (by simp only [intP];rw [decide_eq_false (by omega)]) (by decide) rfl,fCmp (c:=false) (a:=n) (b:=1000000000000000) rfl rfl rfl (by simp only [intP];rw [decide_eq_false (by omega)]) (by decide) rfl,
   fInt (a:=n) (b:=10) rfl rfl rfl (by simp [intP]) (by decide) rfl,fCmp (c:=z) rfl rfl rfl (by rw [i64eqL,hz]) (by decide) rfl,trivial⟩ ⟨⟨eqV_self (3,n,k,[]),rfl⟩,trivial⟩
 rcases Nat.eq_zero_or_pos k with rfl|hkp
 ·exact Ev.facts (args:=[.agg [nI 3, .atom 0,nI 0, .str []]]) prog_ok (nuL_okB rfl) (okR_eq (bl_all rd_k0 _)) (hf _ rfl) rfl rfl
 ·have hz:(n.tmod 10==0)=false:=by rw [beq_eq_false_iff_ne];rcases h3 with h3|h3<;>omega
  exact Ev.facts (args:=[.agg [nI 3, .atom 0,nI k, .str []]]) prog_ok (nuL_okB rfl) (okR_eq (List.all_eq_true.1 rd_k1 k (by rw [List.mem_range];omega))) (hf _ hz) rfl rfl
def mtP (q:Bool):PV:=match q with|true=>.atom 3|false=>.atom 2
def mtN (b:Bool):PV:=match b with|true=>.atom 7|false=>.atom 8
def mtL (b q:Bool):Fact:=.loop f_sql_meant 9 [(1, .bool b),(4, .box 0 0),(7,mtP q),(8, .bool q),(9, .atom 5),(10,nI 0),(32, .atom 6),(33,nI 0)] meS (.exit 0) [(1, .bool b),(4, .box 0 0),(7,mtP q),(8, .bool q),(10, .atom 7)] meS
def mtF (b q:Bool):List Fact:=[.prim f_strings_Cut [.atom 0, .str [46]] (.tup [.atom 1, .atom 2, .bool q]), .prim f_strings_TrimRight [.atom 2, .str [48]] (.atom 3), .op (.bin .add ty_string) [.atom 1,mtP q] (.atom 4), .prim f_strings_TrimLeft [.atom 4, .str [48]] (.atom 5),
 .op (.len ty_string) [.atom 5] (.atom 6),oI .gtr (.atom 6) (nI 19) (.bool false),mtL b q]
def mtS:Bool→List Fact
 | true=>[]
 | false=>[oI .eql (.atom 7) (nI (-9223372036854775808)) (.bool false), .op (.un .neg) [.atom 7] (.atom 8)]
def mtDec (b z:Bool):List Fact:=[.op (.len ty_string) [.atom 3] (.atom 9),oI .eql (mtN b) (nI 0) (.bool z), .prim f_val_Right [.agg [nI 3,mtN b,if z then nI 0 else .atom 9, .str []]] (.bool true)]
theorem mt_k1:bl (fun b=>okR (.tup [.agg [nI 2,mtN b,nI 0, .str []], .bool true]) (callF PG (fOrc noOwn (mtF b false++mtS b)) 10 f_sql_meant [.atom 0, .bool b] []))=true:=by kernel_rfl
theorem mt_k2:bl (fun b=>bl fun z=>okR (.tup [.agg [nI 3,mtN b,if z then nI 0 else .atom 9, .str []], .bool true]) (callF PG (fOrc noOwn (mtF b true++(mtS b++mtDec b z))) 10 f_sql_meant [.atom 0, .bool b] []))=true:=by kernel_rfl
theorem fNeg {nu:Nat→PV} {x r:PV} {n:Int} (h1:subD nu x=nI n) (h2:subD nu r=nI (-n)) (hn : -9223372036854775808 < n∧n≤9223372036854775807) (h3:oneB nu r=true):FactOk PG nu (.op (.un .neg) [x] r):=by
 refine ⟨?_,h3⟩
 show unP .neg (subD nu x)=some (subD nu r)
 rw [h1,h2]
 show some (PV.int .i64 (IntKind.i64.wrap (0 - n)))=_
 rw [w6_id (by omega) (by omega),Int.zero_sub]
theorem fStrLen' {nu:Nat→PV} {x r:PV} {s:List UInt8} {n:Int} (h1:subD nu x = .str s) (hn:n=s.length) (h2:subD nu r=nI n) (h3:oneB nu r=true):FactOk PG nu (.op (.len ty_string) [x] r):=fStrLen h1 (by rw [h2,hn]) h3
def mtV (b:Bool) (n:Int):Int:=if b then n else -n
def mtNu (s w p pt a all:List UInt8) (n:Int):List PV:=[.str s, .str w, .str p, .str pt, .str a, .str all,nI all.length,nI n,nI (-n),nI pt.length]
section
variable {s w p:List UInt8}
theorem mtF_ok (b q:Bool) (hlen:s.length≤4000000000) (hcut:Lib.cut s [46]=(w,p,q)) (hw:w.length≤4000000000) (hp:p.length≤4000000000) {pt:List UInt8} (hpt:pt=if q then trimR p else p) (hd:(w++pt).all isDigit=true) (hb : -9223372036854775808≤numZ (trimL (w++pt)) 0) :
  FactsOk PG (nuL (mtNu s w p (trimR p) (w++pt) (trimL (w++pt)) (numZ (trimL (w++pt)) 0))) (mtF b q):=by
 have hc:=cut_ev s [46] (by omega)
 rw [hcut] at hc
 have htr:=trimRight_ev p (by omega)
 have hall:=trimL_len hd hb
 have hdg:=trimL_all hd
 have hl:=me_loop b q pt hall (trimL (w++pt)) 0 0 rfl (Nat.zero_le _) hdg (Int.le_refl 0) hb
 have hptl:pt.length≤4000000000:=by
  rw [hpt]
  cases q with
  | false=>exact hp
  | true =>
   have:(trimR p).length≤p.length:=by
    unfold trimR trimL
    rw [List.length_reverse]
    have:=(List.dropWhile_suffix (l:=p.reverse) (· == 48)).length_le
    simpa using this
   show (trimR p).length≤_
   omega
 cases q with
 | false =>
  have hpt:pt=p:=hpt
  subst hpt
  exact ⟨fprim hc rfl rfl rfl,fprim htr rfl rfl rfl,fStrAdd (l:=w) (m:=pt) rfl rfl (by omega) rfl rfl,fprim (trimLeft_ev _) rfl rfl rfl,fStrLen rfl rfl rfl,fCmp (c:=false) (a:=(trimL (w++pt)).length) (b:=19) rfl rfl rfl (by simp only [intP];rw [decide_eq_false (by omega)]) (by decide) rfl,fLoopOk me_lone (Nat.le_refl _) hl rfl,trivial⟩
 | true =>
  have hpt:pt=trimR p:=hpt
  subst hpt
  exact ⟨fprim hc rfl rfl rfl,fprim htr rfl rfl rfl,fStrAdd (l:=w) (m:=trimR p) rfl rfl (by omega) rfl rfl,fprim (trimLeft_ev _) rfl rfl rfl,fStrLen rfl rfl rfl,fCmp (c:=false) (a:=(trimL (w++trimR p)).length) (b:=19) rfl rfl rfl (by simp only [intP];rw [decide_eq_false (by omega)]) (by decide) rfl,fLoopOk me_lone (Nat.le_refl _) hl rfl,trivial⟩
theorem mtS_ok {nu:Nat→PV} (b:Bool) {n:Int} (h7:nu 7=nI n) (h8:nu 8=nI (-n)) (hn : -9223372036854775808≤n∧n≤0) (hb:b=false→n≠-9223372036854775808):FactsOk PG nu (mtS b):=by
 cases b with
 | true=>trivial
 | false =>
  have:=hb rfl
  exact ⟨fCmp (c:=false) (a:=n) (b:=-9223372036854775808) h7 rfl rfl (by rw [i64eqL,beq_eq_false_iff_ne.2 this]) (by decide) rfl,fNeg h7 h8 (by omega) (by show (nu 8).one=true;rw [h8];rfl),trivial⟩
theorem meant_int (b:Bool) (hlen:s.length≤4000000000) (hd:s.all isDigit=true) (hb : -9223372036854775808≤numZ (trimL s) 0) (hb2:b=false→numZ (trimL s) 0≠-9223372036854775808) :
  Ev PG f_sql_meant [.str s, .bool b] (.tup [vP (2,mtV b (numZ (trimL s) 0),0,[]), .bool true]):=by
 have e:s++[]=s:=List.append_nil s
 have hf:=mtF_ok b false hlen (cut_no hd) hlen (by simp) (pt:=[]) rfl (by rw [e];exact hd) (by rw [e];exact hb)
 rw [e] at hf
 have h0:=numZ_le (trimL s) (n:=0) (trimL_all hd) (Int.le_refl 0)
 have hs:=mtS_ok (nu:=nuL (mtNu s s [] (trimR []) s (trimL s) (numZ (trimL s) 0))) b rfl rfl ⟨hb,h0⟩ hb2
 have hk:=okR_eq (bl_all mt_k1 b)
 cases b with
 | true=>exact Ev.facts (args:=[.atom 0, .bool true]) prog_ok (nuL_okB rfl) hk (FactsOk.append hf hs) rfl rfl
 | false=>exact Ev.facts (args:=[.atom 0, .bool false]) prog_ok (nuL_okB rfl) hk (FactsOk.append hf hs) rfl rfl
theorem meant_dec (b:Bool) (hlen:s.length≤4000000000) (hs:s=w++46::p) (hdw:w.all isDigit=true) (hdp:p.all isDigit=true) {n:Int} (hn:numZ (trimL (w++trimR p)) 0=n) (hb : -1000000000000000 < n) (hk:n=0∨((trimR p).length≤6∧((trimR p).length=0∨n.tmod 10≠0))) :
  Ev PG f_sql_meant [.str s, .bool b] (.tup [vP (3,mtV b n,if n=0 then 0 else ((trimR p).length:Nat),[]), .bool true]):=by
 have hl:w.length+(p.length+1)=s.length:=by rw [hs];simp
 have hdt:(trimR p).all isDigit=true:=by
  unfold trimR
  rw [List.all_reverse]
  exact trimL_all (by rw [List.all_reverse];exact hdp)
 have hd:(w++trimR p).all isDigit=true:=by rw [List.all_append,hdw,hdt];rfl
 have h0:=numZ_le (trimL (w++trimR p)) (n:=0) (trimL_all hd) (Int.le_refl 0)
 rw [hn] at h0
 have hf:=mtF_ok b true hlen (by rw [hs];exact cut_at p hdw) (by omega) (by omega) (pt:=trimR p) rfl hd (by rw [hn];omega)
 rw [hn] at hf
 have hs2:=mtS_ok (nu:=nuL (mtNu s w p (trimR p) (w++trimR p) (trimL (w++trimR p)) n)) b rfl rfl ⟨by omega,h0⟩ (fun _=>by omega)
 by_cases hz:n=0
 ·subst hz
  rw [if_pos rfl]
  have hr:=right_dec (n:=mtV b 0) (k:=0) (by cases b<;>decide) (by cases b<;>decide) (by decide) (.inl rfl)
  have hk:=okR_eq (bl_all (bl_all mt_k2 b) true)
  cases b with
  | true=>exact Ev.facts (args:=[.atom 0, .bool true]) prog_ok (nuL_okB rfl) hk (FactsOk.append hf (FactsOk.append hs2 ⟨fStrLen rfl rfl rfl,fCmp (c:=true) (a:=0) (b:=0) rfl rfl rfl rfl (by decide) rfl,fprim hr rfl rfl rfl,trivial⟩)) rfl rfl
  | false=>exact Ev.facts (args:=[.atom 0, .bool false]) prog_ok (nuL_okB rfl) hk (FactsOk.append hf (FactsOk.append hs2 ⟨fStrLen rfl rfl rfl,fCmp (c:=true) (a:=-0) (b:=0) rfl rfl rfl rfl (by decide) rfl,fprim hr rfl rfl rfl,trivial⟩)) rfl rfl
 ·rw [if_neg hz]
  obtain ⟨hk6,hk0⟩:=hk.resolve_left hz
  have hmod:(trimR p).length=0∨(mtV b n).tmod 10≠0:=by
   rcases hk0 with h|h
   ·exact .inl h
   ·refine .inr ?_
    cases b with
    | true=>exact h
    | false=>show (-n).tmod 10≠0;rw [Int.neg_tmod];omega
  have hv : -1000000000000000 < mtV b n∧mtV b n < 1000000000000000:=by
   cases b with
   | true=>show -1000000000000000 < n∧n < 1000000000000000;omega
   | false=>show -1000000000000000 < -n∧-n < 1000000000000000;omega
  have hr:=right_dec (n:=mtV b n) (k:=(trimR p).length) hv.1 hv.2 hk6 hmod
  have hk:=okR_eq (bl_all (bl_all mt_k2 b) false)
  have hnz:¬ mtV b n=0:=by cases b with|true=>exact hz|false=>show ¬ -n=0;omega
  cases b with
  | true=>exact Ev.facts (args:=[.atom 0, .bool true]) prog_ok (nuL_okB rfl) hk (FactsOk.append hf (FactsOk.append hs2 ⟨fStrLen rfl rfl rfl,fCmp (c:=false) (a:=n) (b:=0) rfl rfl rfl (by rw [i64eqL,beq_eq_false_iff_ne.2 hz]) (by decide) rfl,fprim hr rfl rfl rfl,trivial⟩)) rfl rfl
  | false=>exact Ev.facts (args:=[.atom 0, .bool false]) prog_ok (nuL_okB rfl) hk (FactsOk.append hf (FactsOk.append hs2 ⟨fStrLen rfl rfl rfl,fCmp (c:=false) (a:=-n) (b:=0) rfl rfl rfl (by rw [i64eqL,show (-n==0)=false from beq_eq_false_iff_ne.2 hnz]) (by decide) rfl,fprim hr rfl rfl rfl,trivial⟩)) rfl rfl
end
end Go.Proofs.YtdlkibeljkapeaaGreatDoor.Den
namespace Go.Proofs.YtdlkibeljkapeaaGreatDoor.Den
open Go Go.RowKit
def dgF (k:Nat):List Fact :=
 [.prim f_sql_past [.atom 0, .atom 1, .fn f_sql_digit [] []] (.atom 2),oI .add (.atom 2) (nI 1) (.atom 3), .op (.len ty_string) [.atom 0] (.atom 4)] ++
 match k with
 | 0=>[oI .lss (.atom 3) (.atom 4) (.bool false)]
 | 1=>[oI .lss (.atom 3) (.atom 4) (.bool true), .op (.index ty_string) [.atom 0, .atom 2] (.atom 5),bI .eql (.atom 5) 46 false]
 | _=>[oI .lss (.atom 3) (.atom 4) (.bool true), .op (.index ty_string) [.atom 0, .atom 2] (.atom 5),bI .eql (.atom 5) 46 true, .op (.index ty_string) [.atom 0, .atom 3] (.atom 6), .prim f_sql_digit [.atom 6] (.bool true), .prim f_sql_past [.atom 0, .atom 3, .fn f_sql_digit [] []] (.atom 7)]
def dgT (k:Nat):PV:=match k with|0|1=>.atom 2|_=>.atom 7
def dgE (k:Nat):List Fact:=[.op (.slice ty_string true true) [.atom 0, .atom 1,dgT k] (.atom 8), .prim f_sql_meant [.atom 8, .bool true] (.tup [.agg [.atom 10, .atom 11, .atom 12, .atom 13], .bool true])]
theorem dg_k:((List.range 3).all fun k=>okR (.tup [sgA (nI 3) (.atom 1) (.atom 8) (nI 0) (nI 0) (nI 0) (.str []) (nI 0),dgT k]) (callF PG (fOrc noOwn (dgF k++dgE k)) 10 f_sql_digits [.atom 0,sg0 (.atom 1)] []))=true:=by kernel_rfl
def dgNu (s:List UInt8) (i j:Nat) (c c2:UInt8) (t:Nat) (w:List UInt8) (v:V4):List PV:=[.str s,nI i,nI j,nI (j+1:Nat),nI s.length,nB c,nB c2,nI t, .str w,nI 0,nI v.1,nI v.2.1,nI v.2.2.1, .str v.2.2.2]
def numSg (w:List UInt8) (a:Nat):Sg:=⟨3,a,w,v0,0⟩
theorem take_drop_of {s:List UInt8} {i:Nat} {w t:List UInt8} (h:s.drop i=w++t):(s.take (i+w.length)).drop i=w:=by
 rw [List.drop_take,Nat.add_sub_cancel_left,h];simp
section
variable {s:List UInt8} {i:Nat} {w rest:List UInt8} {v:V4}
theorem digits_int (hs:s.length≤9223372036854775805) (hi:i≤s.length) (h:s.drop i=w++rest) (hw:w.all isDigit=true) (hr:headNot isDigit rest=true) (hr2:rest[0]? ≠ some 46) (hm:Ev PG f_sql_meant [.str w, .bool true] (.tup [vP v, .bool true])) :
  Ev PG f_sql_digits [.str s,sgP 0 i [] 0] (.tup [(numSg w i).pv,nI (i+w.length:Nat)]):=by
 have hp:=past_digit (s:=s) (by omega) i hi
 rw [pastN_of h hw hr] at hp
 have hl:i+w.length+rest.length=s.length:=by
  have:=congrArg List.length h
  simp only [List.length_drop,List.length_append] at this
  omega
 have e3:IntKind.i64.wrap (((i+w.length:Nat):Int)+1)=((i+w.length+1:Nat):Int):=by rw [w6_id (by omega) (by omega)];omega
 have hsl:=take_drop_of h
 by_cases h1:i+w.length+1 < s.length
 ·obtain ⟨c,t,hrest⟩:∃ c t,rest=c::t:=by
   cases rest with
   | nil=>simp at hl;omega
   | cons c t=>exact ⟨c,t,rfl⟩
  have hc:=drop_more h
  rw [hrest] at hc
  obtain ⟨_,hcc⟩:=drop_le hc
  have hne:c≠46:=fun e=>hr2 (by rw [hrest,e];rfl)
  exact Ev.facts (nu:=nuL (dgNu s i (i+w.length) c 0 0 w v)) (args:=[.atom 0,sg0 (.atom 1)]) prog_ok (nuL_okB rfl) (okR_eq (List.all_eq_true.1 dg_k 1 (by decide)))
   (FactsOk.append ⟨fprim hp rfl rfl rfl,fInt (a:=(i+w.length:Nat)) (b:=1) rfl rfl rfl (by simp only [intP];rw [e3]) (by decide) rfl,fStrLen rfl rfl rfl,fCmp (c:=true) (a:=(i+w.length+1:Nat)) (b:=s.length) rfl rfl rfl (by simp only [intP];rw [decide_eq_true (by omega)]) (by decide) rfl,fStrIx rfl rfl hcc rfl rfl,
    fU8 (a:=(c.toNat:Nat)) (b:=(46:Nat)) rfl rfl (u8eq (c:=c) (n:=46) (b:=false) (by decide) (beq_eq_false_iff_ne.2 hne)) rfl (by decide) rfl,trivial⟩ ⟨fSlice (i:=i) (j:=i+w.length) rfl rfl rfl (by omega) hsl rfl rfl,fprim hm rfl rfl rfl,trivial⟩) rfl rfl
 ·exact Ev.facts (nu:=nuL (dgNu s i (i+w.length) 0 0 0 w v)) (args:=[.atom 0,sg0 (.atom 1)]) prog_ok (nuL_okB rfl) (okR_eq (List.all_eq_true.1 dg_k 0 (by decide)))
   (FactsOk.append ⟨fprim hp rfl rfl rfl,fInt (a:=(i+w.length:Nat)) (b:=1) rfl rfl rfl (by simp only [intP];rw [e3]) (by decide) rfl,fStrLen rfl rfl rfl,fCmp (c:=false) (a:=(i+w.length+1:Nat)) (b:=s.length) rfl rfl rfl (by simp only [intP];rw [decide_eq_false (by omega)]) (by decide) rfl,trivial⟩ ⟨fSlice (i:=i) (j:=i+w.length) rfl rfl rfl (by omega) hsl rfl rfl,fprim hm rfl rfl rfl,trivial⟩) rfl rfl
theorem digits_dec {d:UInt8} {p:List UInt8} (hs:s.length≤9223372036854775805) (hi:i≤s.length) (h:s.drop i=w++(46::((d::p)++rest))) (hw:w.all isDigit=true) (hp':(d::p).all isDigit=true) (hr:headNot isDigit rest=true) (hm:Ev PG f_sql_meant [.str (w++46::d::p), .bool true] (.tup [vP v, .bool true])) :
  Ev PG f_sql_digits [.str s,sgP 0 i [] 0] (.tup [(numSg (w++46::d::p) i).pv,nI (i+w.length+1+(p.length+1):Nat)]):=by
 have hp:=past_digit (s:=s) (by omega) i hi
 rw [pastN_of h hw rfl] at hp
 have hl:i+w.length+(1+(p.length+1+rest.length))=s.length:=by
  have:=congrArg List.length h
  simp only [List.length_drop,List.length_append,List.length_cons] at this
  omega
 have e3:IntKind.i64.wrap (((i+w.length:Nat):Int)+1)=((i+w.length+1:Nat):Int):=by rw [w6_id (by omega) (by omega)];omega
 have h1:=drop_more h
 obtain ⟨_,hc1⟩:=drop_le h1
 have h2:s.drop (i+w.length+1)=(d::p)++rest:=drop_more (g:=[46]) h1
 obtain ⟨_,hc2⟩:=drop_le (show s.drop (i+w.length+1)=d::(p++rest) from h2)
 have hp2:=past_digit (s:=s) (by omega) (i+w.length+1) (by omega)
 rw [pastN_of h2 hp' hr] at hp2
 have hdg:=digit_ev d
 simp only [List.all_cons,Bool.and_eq_true] at hp'
 rw [hp'.1] at hdg
 have hsl:(s.take (i+w.length+1+(p.length+1))).drop i=w++46::d::p:=by
  have:=take_drop_of (s:=s) (i:=i) (w:=w++46::d::p) (t:=rest) (by rw [h];simp)
  rw [show i+w.length+1+(p.length+1)=i+(w++46::d::p).length by simp;omega]
  exact this
 exact Ev.facts (nu:=nuL (dgNu s i (i+w.length) 46 d (i+w.length+1+(p.length+1)) (w++46::d::p) v)) (args:=[.atom 0,sg0 (.atom 1)]) prog_ok (nuL_okB rfl) (okR_eq (List.all_eq_true.1 dg_k 2 (by decide)))
  (FactsOk.append ⟨fprim hp rfl rfl rfl,fInt (a:=(i+w.length:Nat)) (b:=1) rfl rfl rfl (by simp only [intP];rw [e3]) (by decide) rfl,fStrLen rfl rfl rfl,fCmp (c:=true) (a:=(i+w.length+1:Nat)) (b:=s.length) rfl rfl rfl (by simp only [intP];rw [decide_eq_true (by omega)]) (by decide) rfl,fStrIx rfl rfl hc1 rfl rfl,
   fU8 (a:=(46:Nat)) (b:=(46:Nat)) rfl rfl (u8eq (c:=46) (n:=46) (b:=true) (by decide) rfl) rfl (by decide) rfl,fStrIx rfl rfl hc2 rfl rfl,fprim hdg rfl rfl rfl,fprim hp2 rfl rfl rfl,trivial⟩ ⟨fSlice (i:=i) (j:=i+w.length+1+(p.length+1)) rfl rfl rfl (by omega) hsl rfl rfl,fprim hm rfl rfl rfl,trivial⟩) rfl rfl
end
end Go.Proofs.YtdlkibeljkapeaaGreatDoor.Den
namespace Go.Proofs.YtdlkibeljkapeaaGreatDoor.Den
open Go Go.RowKit
section
variable {s:List UInt8} {i:Nat} {g:List UInt8}
theorem digit_notBlank {c:UInt8} (h:isDigit c=true):isBlank c=false:=by
 simp only [isDigit,Bool.and_eq_true,decide_eq_true_eq] at h
 simp only [isBlank,Bool.or_eq_false_iff,beq_eq_false_iff_ne]
 refine ⟨fun e=>?_,fun e=>?_⟩<;>subst e<;>simp at h
theorem rd_int (hs:s.length≤9223372036854775805) (hi:i≤s.length) {c:UInt8} {w rest:List UInt8} {v:V4} (h:s.drop i=g++((c::w)++rest)) (hg:g.all isBlank=true) (hw:(c::w).all isDigit=true) (hr:headNot isDigit rest=true) (hr2:rest[0]? ≠ some 46) (hm:Ev PG f_sql_meant [.str (c::w), .bool true] (.tup [vP v, .bool true])) :
  Rd s i (numSg (c::w) (i+g.length)) (i+g.length+(w.length+1)):=by
 have hc:isDigit c=true:=by simp only [List.all_cons,Bool.and_eq_true] at hw;exact hw.1
 have hp:=pastN_of h hg (by show (!isBlank c)=true;rw [digit_notBlank hc];rfl)
 have hd:=drop_more h
 obtain ⟨hil,hcc⟩:=drop_le (show s.drop (i+g.length)=c::(w++rest) from hd)
 have hdg:=digits_int hs (by omega) hd hw hr hr2 hm
 refine ⟨?_,rfl,by show (3:Int)≠6;decide⟩
 exact read_ev (s:=s) (by omega) i hi (c:=c) (x:=numSg (c::w) (i+g.length)) (te:=i+g.length+(w.length+1)) (by rw [hp];exact hcc) (fun e=>by subst e;cases hc) (.inr (.inl ⟨hc,by rw [hp];exact hdg⟩))
theorem rd_dec (hs:s.length≤9223372036854775805) (hi:i≤s.length) {c d:UInt8} {w p rest:List UInt8} {v:V4} (h:s.drop i=g++((c::w)++(46::((d::p)++rest)))) (hg:g.all isBlank=true) (hw:(c::w).all isDigit=true) (hp':(d::p).all isDigit=true) (hr:headNot isDigit rest=true) (hm:Ev PG f_sql_meant [.str ((c::w)++46::d::p), .bool true] (.tup [vP v, .bool true])) :
  Rd s i (numSg ((c::w)++46::d::p) (i+g.length)) (i+g.length+(w.length+1)+1+(p.length+1)):=by
 have hc:isDigit c=true:=by simp only [List.all_cons,Bool.and_eq_true] at hw;exact hw.1
 have hp:=pastN_of h hg (by show (!isBlank c)=true;rw [digit_notBlank hc];rfl)
 have hd:=drop_more h
 obtain ⟨hil,hcc⟩:=drop_le (show s.drop (i+g.length)=c::(w++(46::((d::p)++rest))) from hd)
 have hdg:=digits_dec hs (by omega) hd hw hp' hr hm
 refine ⟨?_,rfl,by show (3:Int)≠6;decide⟩
 exact read_ev (s:=s) (by omega) i hi (c:=c) (x:=numSg ((c::w)++46::d::p) (i+g.length)) (te:=i+g.length+(w.length+1)+1+(p.length+1)) (by rw [hp];exact hcc) (fun e=>by subst e;cases hc) (.inr (.inl ⟨hc,by rw [hp];exact hdg⟩))
def quoSg (v:V4) (a:Nat):Sg:=⟨4,a,[],v,0⟩
theorem rd_text (hs:s.length≤9223372036854775805) (hi:i≤s.length) {l rest:List UInt8} (h:s.drop i=g++(39::(esc l++39::rest))) (hg:g.all isBlank=true) (hl:l.length≤40) (hok:l.all isOk=true) (hr:rest[0]? ≠ some 39) :
  Rd s i (quoSg (4,0,0,l) (i+g.length)) (i+g.length+(esc l).length+2):=by
 have hp:=pastN_of h hg rfl
 have hd:=drop_more h
 obtain ⟨hil,hcc⟩:=drop_le hd
 have ht:=text_ev hs (i+g.length) hl hok hr hd
 refine ⟨?_,rfl,by show (4:Int)≠6;decide⟩
 exact read_ev (s:=s) (by omega) i hi (c:=39) (x:=quoSg (4,0,0,l) (i+g.length)) (te:=i+g.length+(esc l).length+2) (by rw [hp];exact hcc) (fun e=>absurd e (by decide)) (.inr (.inr ⟨rfl,by rw [hp];exact ht⟩))
end
def litP (j:Nat):PV:=.tup [.agg [.atom j, .atom (j+1), .atom (j+2), .atom (j+3)], .bool true]
def vcP (k n:Int):PV:=.tup [.agg [nI k,nI n,nI 0, .str []], .bool true]
theorem co_k1:okRS (litP 4) (okD 10 9) (callF PG (fOrc noOwn [oI .eql (.atom 1) (nI 4) (.bool true),nextT (okD 1 9) (okD 10 9)]) 20 f_sql_parser_constant [.box 0 0] (okD 1 9))=true:=by kernel_rfl
theorem co_k2:okRS (litP 20) (okD 10 9) (callF PG (fOrc noOwn [oI .eql (.atom 1) (nI 4) (.bool false),oI .eql (.atom 1) (nI 3) (.bool true), .prim f_sql_meant [.atom 3, .bool false] (litP 20),nextT (okD 1 9) (okD 10 9)]) 20 f_sql_parser_constant [.box 0 0] (okD 1 9))=true:=by kernel_rfl
def coW (b1 b2 b3:Bool):List Fact:=[oI .eql (.atom 1) (nI 4) (.bool false),oI .eql (.atom 1) (nI 3) (.bool false),isT (okD 1 9) "true" b1,isT (okD 1 9) "false" b2,isT (okD 1 9) "null" b3]
theorem co_kt:okRS (vcP 1 1) (okD 10 9) (callF PG (fOrc noOwn (coW true false false++[nextT (okD 1 9) (okD 10 9)])) 20 f_sql_parser_constant [.box 0 0] (okD 1 9))=true:=by kernel_rfl
theorem co_kf:okRS (vcP 1 0) (okD 10 9) (callF PG (fOrc noOwn (coW false true false++[nextT (okD 1 9) (okD 10 9)])) 20 f_sql_parser_constant [.box 0 0] (okD 1 9))=true:=by kernel_rfl
theorem co_kn:okRS (vcP 0 0) (okD 10 9) (callF PG (fOrc noOwn (coW false false true++[nextT (okD 1 9) (okD 10 9)])) 20 f_sql_parser_constant [.box 0 0] (okD 1 9))=true:=by kernel_rfl
theorem co_km:okRS (litP 20) (okD 30 9) (callF PG (fOrc noOwn (coW false false false++[isT (okD 1 9) "-" true, .prim f_sql_read [.atom 0, .atom 8] (.tup [sgA (.atom 10) (.atom 11) (.atom 12) (.atom 13) (.atom 14) (.atom 15) (.atom 16) (nI 0), .atom 17]),oI .neq (.atom 10) (nI 3) (.bool false),nextT (okD 1 9) (okD 10 9), .prim f_sql_meant [.atom 12, .bool true] (litP 20),nextT (okD 10 9) (okD 30 9)])) 20 f_sql_parser_constant [.box 0 0] (okD 1 9))=true:=by kernel_rfl
def Const (s:List UInt8) (x:Sg) (tt dp:Nat) (v:V4) (z:Sg) (tz:Nat):Prop:=EvS PG f_sql_parser_constant [.box 0 0] (okL s x tt dp) (.tup [vP v, .bool true]) (okL s z tz dp)
def v4L (v:V4):List PV:=[nI v.1,nI v.2.1,nI v.2.2.1, .str v.2.2.2]
def coNu (s:List UInt8) (x:Sg) (tt dp:Nat) (y:Sg) (tu:Nat) (v:V4) (z:Sg) (tz:Nat):List PV:=PV.str s::(sv x tt++(nI dp::(sv y tu++([nI 0,nI 0]++(v4L v++([nI 0,nI 0,nI 0,nI 0,nI 0,nI 0]++sv z tz))))))
section
variable {s:List UInt8} {x y z:Sg} {tt tu tz:Nat} (dp:Nat) {v:V4}
theorem const_quoted (hk:x.k=4) (hv:x.v=v) (hy:Rd s tt y tu):Const s x tt dp v y tu:=by
 subst hv
 exact EvS.facts (nu:=nuL (coNu s x tt dp y tu v0 y tu)) (args:=[.box 0 0]) (s:=okD 1 9) (s':=okD 10 9) (r:=litP 4) prog_ok (nuL_okB rfl) (okRS_eq co_k1)
  ⟨fCmp (c:=true) rfl rfl rfl (by rw [i64eq,hk];rfl) (by decide) rfl,fst1 (next_ev x dp hy) rfl rfl rfl rfl rfl,trivial⟩ rfl rfl rfl
theorem const_num (hk:x.k=3) (hm:Ev PG f_sql_meant [.str x.w, .bool false] (.tup [vP v, .bool true])) (hy:Rd s tt y tu):Const s x tt dp v y tu :=
 EvS.facts (nu:=nuL (coNu s x tt dp y tu v y tu)) (args:=[.box 0 0]) (s:=okD 1 9) (s':=okD 10 9) (r:=litP 20) prog_ok (nuL_okB rfl) (okRS_eq co_k2)
  ⟨fCmp (c:=false) rfl rfl rfl (by rw [i64eq,hk];rfl) (by decide) rfl,fCmp (c:=true) rfl rfl rfl (by rw [i64eq,hk];rfl) (by decide) rfl,fprim hm rfl rfl rfl,fst1 (next_ev x dp hy) rfl rfl rfl rfl rfl,trivial⟩ rfl rfl rfl
theorem coW_ok {nu:Nat→PV} {b1 b2 b3:Bool} (h1:nu 1=nI x.k) (h0:(okD 1 9).map (subRes nu)=okL s x tt dp) (hk4:x.k≠4) (hk3:x.k≠3) (e1:isM x (kw "true")=b1) (e2:isM x (kw "false")=b2) (e3:isM x (kw "null")=b3):FactsOk PG nu (coW b1 b2 b3) :=
 ⟨fCmp (c:=false) h1 rfl rfl (by rw [i64eq,beq_eq_false_iff_ne.2 hk4]) (by decide) rfl,fCmp (c:=false) h1 rfl rfl (by rw [i64eq,beq_eq_false_iff_ne.2 hk3]) (by decide) rfl,fIs h0 e1 rfl,fIs h0 e2 rfl,fIs h0 e3 rfl,trivial⟩
theorem const_true (hx:isM x (kw "true")=true) (h2:isM x (kw "false")=false) (h3:isM x (kw "null")=false) (hk4:x.k≠4) (hk3:x.k≠3) (hy:Rd s tt y tu):Const s x tt dp (1,1,0,[]) y tu :=
 EvS.facts (nu:=nuL (coNu s x tt dp y tu v0 y tu)) (args:=[.box 0 0]) (s:=okD 1 9) (s':=okD 10 9) (r:=vcP 1 1) prog_ok (nuL_okB rfl) (okRS_eq co_kt) (FactsOk.append (coW_ok dp rfl rfl hk4 hk3 hx h2 h3) ⟨fst1 (next_ev x dp hy) rfl rfl rfl rfl rfl,trivial⟩) rfl rfl rfl
theorem const_false (hx:isM x (kw "true")=false) (h2:isM x (kw "false")=true) (h3:isM x (kw "null")=false) (hk4:x.k≠4) (hk3:x.k≠3) (hy:Rd s tt y tu):Const s x tt dp (1,0,0,[]) y tu :=
 EvS.facts (nu:=nuL (coNu s x tt dp y tu v0 y tu)) (args:=[.box 0 0]) (s:=okD 1 9) (s':=okD 10 9) (r:=vcP 1 0) prog_ok (nuL_okB rfl) (okRS_eq co_kf) (FactsOk.append (coW_ok dp rfl rfl hk4 hk3 hx h2 h3) ⟨fst1 (next_ev x dp hy) rfl rfl rfl rfl rfl,trivial⟩) rfl rfl rfl
theorem const_null (hx:isM x (kw "true")=false) (h2:isM x (kw "false")=false) (h3:isM x (kw "null")=true) (hk4:x.k≠4) (hk3:x.k≠3) (hy:Rd s tt y tu):Const s x tt dp v0 y tu :=
 EvS.facts (nu:=nuL (coNu s x tt dp y tu v0 y tu)) (args:=[.box 0 0]) (s:=okD 1 9) (s':=okD 10 9) (r:=vcP 0 0) prog_ok (nuL_okB rfl) (okRS_eq co_kn) (FactsOk.append (coW_ok dp rfl rfl hk4 hk3 hx h2 h3) ⟨fst1 (next_ev x dp hy) rfl rfl rfl rfl rfl,trivial⟩) rfl rfl rfl
theorem const_neg (hx:isM x (kw "true")=false) (h2:isM x (kw "false")=false) (h3:isM x (kw "null")=false) (hk4:x.k≠4) (hk3:x.k≠3) (hm:isM x (kw "-")=true) (hy:Rd s tt y tu) (hyk:y.k=3) (hv:Ev PG f_sql_meant [.str y.w, .bool true] (.tup [vP v, .bool true])) (hz:Rd s tu z tz):Const s x tt dp v z tz:=by
 have he:=hy.ev
 have h0:=hy.e
 have hn1:=next_ev x dp hy
 have hn2:=next_ev y dp hz
 obtain ⟨k,a,w,v',e⟩:=y
 dsimp only at h0 hyk hv
 subst h0
 subst hyk
 exact EvS.facts (nu:=nuL (coNu s x tt dp ⟨3,a,w,v',0⟩ tu v z tz)) (args:=[.box 0 0]) (s:=okD 1 9) (s':=okD 30 9) (r:=litP 20) prog_ok (nuL_okB rfl) (okRS_eq co_km)
  (FactsOk.append (coW_ok dp rfl rfl hk4 hk3 hx h2 h3) ⟨fIs rfl hm rfl,fprim he rfl rfl rfl,fCmp (c:=false) rfl rfl rfl (by rw [i64ne];rfl) (by decide) rfl,fst1 hn1 rfl rfl rfl rfl rfl,fprim hv rfl rfl rfl,fst1 hn2 rfl rfl rfl rfl rfl,trivial⟩) rfl rfl rfl
end
end Go.Proofs.YtdlkibeljkapeaaGreatDoor.Den
namespace Go.Proofs.YtdlkibeljkapeaaGreatDoor.Den
open Go Go.RowKit
def litE (j:Nat):PV:=exA (nI 1) (.str []) (.atom j) (.atom (j+1)) (.atom (j+2)) (.atom (j+3)) .nilslice
def E7.lit (v:V4):E7:=⟨nI 1, .str [],nI v.1,nI v.2.1,nI v.2.2.1, .str v.2.2.2, .nilslice⟩
end Go.Proofs.YtdlkibeljkapeaaGreatDoor.Den
namespace Go.Proofs.YtdlkibeljkapeaaGreatDoor.Den
open Go Go.RowKit
def dgs (m w:Nat):List UInt8:=if m=0∧w=0 then [] else dgs (m / 10) (w - 1)++[UInt8.ofNat (48+m % 10)]
termination_by m+w
decreasing_by
 rename_i h
 have:m / 10≤m:=Nat.div_le_self m 10
 rcases Nat.eq_zero_or_pos m with h0|h0
 ·subst h0;simp at h ⊢;omega
 ·have:m / 10 < m:=Nat.div_lt_self h0 (by decide)
  omega
def diT:List (Nat × PV):=[(0, .atom 0),(1, .atom 1),(5, .atom 2)]
def diA (b1 b2:Bool):List Fact:=[oI .lss (.atom 0) (nI 0) (.bool b1), .op (.len ty_string) [.atom 2] (.atom 3),oI .lss (.atom 3) (.atom 1) (.bool b2)]
def diB:List Fact:=[oI .rem (.atom 0) (nI 10) (.atom 4),oI .sub (nI 48) (.atom 4) (.atom 5), .op (.conv ty_int ty_uint8) [.atom 5] (.atom 6), .op (.conv ty_sl_uint8 ty_string) [.slice 1 [.atom 6]] (.atom 7), .op (.bin .add ty_string) [.atom 7, .atom 2] (.atom 8),oI .quo (.atom 0) (nI 10) (.atom 9)]
noncomputable abbrev diRun (fs:List Fact):Option (Ex × St):=execN PG (fOrc noOwn fs) (callF PG (fOrc noOwn fs) 5) ((fOrc noOwn fs).loop f_r3_Digits) 5 3 (loopAt PG f_r3_Digits 2) ⟨diT,[]⟩
theorem di_lone:loneB PG f_r3_Digits 2=true:=by kernel_rfl
theorem di_a:runsB (diRun (diA false false)) (.exit 0) [(5, .atom 2)] []=true:=by kernel_rfl
theorem di_b:bl (fun b=>runsB (diRun (diA b (!b)++diB)) .normal [(0, .atom 9),(1, .atom 1),(5, .atom 8)] [])=true:=by kernel_rfl
theorem di_c:runsB (diRun (diA true true++diB)) .normal [(0, .atom 9),(1, .atom 1),(5, .atom 8)] []=true:=by kernel_rfl
theorem di_f:okR (.atom 2) (callF PG (fOrc noOwn [.loop f_r3_Digits 2 [(0, .atom 0),(1, .atom 1),(5, .str [])] [] (.exit 0) [(5, .atom 2)] []]) 5 f_r3_Digits [.atom 0, .atom 1] [])=true:=by kernel_rfl
theorem fIntU8 {nu:Nat→PV} {x r:PV} {n:Int} (h1:subD nu x=nI n) (h2:subD nu r = .int .u8 n) (hn:0≤n∧n≤255) (h3:oneB nu r=true):FactOk PG nu (.op (.conv ty_int ty_uint8) [x] r):=by
 refine ⟨?_,h3⟩
 show convP PG ty_int ty_uint8 (subD nu x)=some (subD nu r)
 rw [h1,h2]
 have e1:PG.underlying ty_uint8=some (.int .u8):=by kernel_rfl
 have e2:PG.underlying ty_int=some (.int .i64):=by kernel_rfl
 unfold convP
 rw [e1,e2]
 show some (PV.int .u8 (IntKind.u8.wrap n))=_
 rw [Go.IntWalk.u8_in n hn]
theorem fByteStr {nu:Nat→PV} {x r:PV} {c:UInt8} (h1:subD nu x=nB c) (h2:subD nu r = .str [c]) (h3:oneB nu r=true):FactOk PG nu (.op (.conv ty_sl_uint8 ty_string) [.slice 1 [x]] r):=by
 refine ⟨?_,h3⟩
 show convP PG ty_sl_uint8 ty_string (.slice 1 [subD nu x])=some (subD nu r)
 rw [h1,h2]
 have e1:PG.underlying ty_sl_uint8=some (.slice ty_uint8):=by kernel_rfl
 have e2:PG.underlying ty_string=some .string:=by kernel_rfl
 have e3:PG.underlying ty_uint8=some (.int .u8):=by kernel_rfl
 unfold convP
 rw [e1,e2]
 simp only [e3]
 show (match bytesOf [.int .u8 (c.toNat:Int)] with|some l=>some (PV.str l)|none=>none)=_
 simp [bytesOf]
def diNu (m w:Nat) (acc:List UInt8):List PV:=[nI (-(m:Int)),nI w, .str acc,nI acc.length,nI (-((m % 10:Nat):Int)),nI ((48+m % 10:Nat):Int),nB (UInt8.ofNat (48+m % 10)), .str [UInt8.ofNat (48+m % 10)], .str (UInt8.ofNat (48+m % 10)::acc),nI (-((m / 10:Nat):Int))]
theorem dgs_nil:dgs 0 0=[]:=by unfold dgs;rfl
theorem dgs_step {m w:Nat} (h:¬ (m=0∧w=0)):dgs m w=dgs (m / 10) (w - 1)++[UInt8.ofNat (48+m % 10)]:=by
 conv=>lhs;unfold dgs
 rw [if_neg h]
theorem dgs_len:∀ (j:Nat) {m w:Nat},m < 10 ^ j→w≤j→(dgs m w).length≤j
 | 0,m,w,h,hw=>by
  obtain rfl:m=0:=by simpa using h
  obtain rfl:w=0:=by omega
  rw [dgs_nil];simp
 | j+1,m,w,h,hw=>by
  by_cases hc:m=0∧w=0
  ·rw [hc.1,hc.2,dgs_nil];simp
  ·rw [dgs_step hc,List.length_append]
   have:=dgs_len j (m:=m / 10) (w:=w - 1) (by rw [Nat.pow_succ] at h;omega) (by omega)
   simp only [List.length_cons,List.length_nil]
   omega
set_option maxRecDepth 20000 in
theorem di_loop (w:Nat):∀ (k m:Nat) (acc:List UInt8),(dgs m (w - acc.length)).length=k→m≤9223372036854775808→acc.length+k≤1000→w≤1000 →
  RunsR PG (ntOf PG f_r3_Digits) (loopAt PG f_r3_Digits 2) [(0,nI (-(m:Int))),(1,nI w),(5, .str acc)] [] (.exit 0) [(5, .str (dgs m (w - acc.length)++acc))] []:=by
 intro k
 induction k with
 | zero =>
  intro m acc hk hm ha hw
  have hc:m=0∧w - acc.length=0:=by
   by_cases hc:m=0∧w - acc.length=0
   ·exact hc
   ·rw [dgs_step hc] at hk;simp at hk
  obtain ⟨rfl,hw0⟩:=hc
  rw [hw0,dgs_nil]
  refine RunsR.leave ?_ (fun h=>by cases h)
  exact RunsP.chk (nu:=nuL (diNu 0 w acc)) prog_ok (nuL_okB rfl) (T:=diT) (s:=[]) (T':=[(5, .atom 2)]) (s':=[]) di_lone di_a
   ⟨fCmp (c:=false) (a:=0) (b:=0) rfl rfl rfl rfl (by decide) rfl,fStrLen rfl rfl rfl,fCmp (c:=false) (a:=acc.length) (b:=w) rfl rfl rfl (by simp only [intP];rw [decide_eq_false (by omega)]) (by decide) rfl,trivial⟩ rfl rfl rfl
 | succ k ih =>
  intro m acc hk hm ha hw
  have hc:¬ (m=0∧w - acc.length=0):=fun hc=>by rw [hc.1,hc.2,dgs_nil] at hk;simp at hk
  have hs:=dgs_step hc
  have hwa:w - (UInt8.ofNat (48+m % 10)::acc).length=w - acc.length - 1:=by rw [List.length_cons];omega
  have hr:=ih (m / 10) (UInt8.ofNat (48+m % 10)::acc) (by rw [hwa];rw [hs,List.length_append] at hk;simpa using hk) (by omega) (by rw [List.length_cons];omega) hw
  have e0:dgs (m / 10) (w - acc.length - 1)++UInt8.ofNat (48+m % 10)::acc=dgs m (w - acc.length)++acc:=by rw [hs];simp
  rw [hwa,e0] at hr
  have e1:(-(m:Int)).tmod 10 = -((m % 10:Nat):Int):=by rw [Int.neg_tmod,Int.tmod_eq_emod_of_nonneg (by omega)];omega
  have e2:IntKind.i64.wrap (48 - -((m % 10:Nat):Int))=((48+m % 10:Nat):Int):=by rw [w6_id (by omega) (by omega)];omega
  have e3:(-(m:Int)).tdiv 10 = -((m / 10:Nat):Int):=by rw [Int.neg_tdiv,Int.tdiv_eq_ediv_of_nonneg (by omega)];omega
  have e4:IntKind.i64.wrap (-((m / 10:Nat):Int)) = -((m / 10:Nat):Int):=w6_id (by omega) (by omega)
  have e5:(UInt8.ofNat (48+m % 10)).toNat=48+m % 10:=by simp only [UInt8.toNat_ofNat'];omega
  have hcv:PV.int .u8 ((48+m % 10:Nat):Int)=nB (UInt8.ofNat (48+m % 10)):=by show _=PV.int .u8 (((UInt8.ofNat (48+m % 10)).toNat:Nat):Int);rw [e5]
  have hB:FactsOk PG (nuL (diNu m w acc)) diB :=
   ⟨fInt (a:=-(m:Int)) (b:=10) rfl rfl rfl (by simp [intP,e1]) (by decide) rfl,fInt (a:=48) (b:=-((m % 10:Nat):Int)) rfl rfl rfl (by simp only [intP];rw [e2]) (by decide) rfl,fIntU8 (n:=((48+m % 10:Nat):Int)) rfl hcv.symm (by omega) rfl,fByteStr rfl rfl rfl,
    fStrAdd (l:=[UInt8.ofNat (48+m % 10)]) (m:=acc) rfl rfl (by simp;omega) rfl rfl,fInt (a:=-(m:Int)) (b:=10) rfl rfl rfl (by simp [intP,e3];simpa using e4) (by decide) rfl,trivial⟩
  refine RunsR.round ?_ hr
  by_cases hm0:m=0
  ·subst hm0
   have hA:FactsOk PG (nuL (diNu 0 w acc)) (diA false true):=⟨fCmp (c:=false) (a:=0) (b:=0) rfl rfl rfl rfl (by decide) rfl,fStrLen rfl rfl rfl,fCmp (c:=true) (a:=acc.length) (b:=w) rfl rfl rfl (by simp only [intP];rw [decide_eq_true (by omega)]) (by decide) rfl,trivial⟩
   exact RunsP.chk (nu:=nuL (diNu 0 w acc)) prog_ok (nuL_okB rfl) (T:=diT) (s:=[]) (T':=[(0, .atom 9),(1, .atom 1),(5, .atom 8)]) (s':=[]) di_lone (bl_all di_b false) (FactsOk.append hA hB) rfl rfl rfl
  ·have hlt:decide (-(m:Int) < 0)=true:=decide_eq_true (by omega)
   by_cases hw1:acc.length < w
   ·have hA:FactsOk PG (nuL (diNu m w acc)) (diA true true):=⟨fCmp (c:=true) (a:=-(m:Int)) (b:=0) rfl rfl rfl (by simp only [intP];rw [hlt]) (by decide) rfl,fStrLen rfl rfl rfl,fCmp (c:=true) (a:=acc.length) (b:=w) rfl rfl rfl (by simp only [intP];rw [decide_eq_true (by omega)]) (by decide) rfl,trivial⟩
    exact RunsP.chk (nu:=nuL (diNu m w acc)) prog_ok (nuL_okB rfl) (T:=diT) (s:=[]) (T':=[(0, .atom 9),(1, .atom 1),(5, .atom 8)]) (s':=[]) di_lone di_c (FactsOk.append hA hB) rfl rfl rfl
   ·have hA:FactsOk PG (nuL (diNu m w acc)) (diA true false):=⟨fCmp (c:=true) (a:=-(m:Int)) (b:=0) rfl rfl rfl (by simp only [intP];rw [hlt]) (by decide) rfl,fStrLen rfl rfl rfl,fCmp (c:=false) (a:=acc.length) (b:=w) rfl rfl rfl (by simp only [intP];rw [decide_eq_false (by omega)]) (by decide) rfl,trivial⟩
    exact RunsP.chk (nu:=nuL (diNu m w acc)) prog_ok (nuL_okB rfl) (T:=diT) (s:=[]) (T':=[(0, .atom 9),(1, .atom 1),(5, .atom 8)]) (s':=[]) di_lone (bl_all di_b true) (FactsOk.append hA hB) rfl rfl rfl
theorem digits_ev {m w:Nat} (hm:m≤9223372036854775808) (hw:w≤100):Ev PG f_r3_Digits [nI (-(m:Int)),nI w] (.str (dgs m w)):=by
 have hl:(dgs m w).length≤100:=dgs_len 100 (Nat.lt_of_le_of_lt hm (by decide)) hw
 have h:=di_loop w (dgs m w).length m [] rfl hm (by simp;omega) (by omega)
 rw [List.append_nil] at h
 exact Ev.facts (nu:=nuL [nI (-(m:Int)),nI w, .str (dgs m w)]) prog_ok (nuL_okB rfl) (okR_eq di_f) ⟨fLoopOk di_lone (Nat.le_refl _) h rfl,trivial⟩ rfl rfl
end Go.Proofs.YtdlkibeljkapeaaGreatDoor.Den
namespace Go.Proofs.YtdlkibeljkapeaaGreatDoor.Den
open Go Go.RowKit
def sgnL (n:Int):List UInt8:=if n≥0 then [] else [45]
def dgN (n:Int) (k:Nat):List UInt8:=dgs n.natAbs (k+1)
def whN (n:Int) (k:Nat):List UInt8:=(dgN n k).take ((dgN n k).length - k)
def ptN (n:Int) (k:Nat):List UInt8:=(dgN n k).drop ((dgN n k).length - k)
def nuS:Bool→List Fact
 | true=>[oI .sub (nI 0) (.atom 0) (.atom 2), .prim f_r3_Digits [.atom 2, .atom 3] (.atom 4)]
 | false=>[.prim f_r3_Digits [.atom 0, .atom 3] (.atom 4)]
def nuF (b:Bool):List Fact:=nuS b++[oI .geq (.atom 0) (nI 0) (.bool b),oI .add (.atom 1) (nI 1) (.atom 3), .op (.len ty_string) [.atom 4] (.atom 5),oI .sub (.atom 5) (.atom 1) (.atom 6),
 .op (.slice ty_string false true) [.atom 4, .atom 6] (.atom 7), .op (.bin .add ty_string) [.str (if b then [] else [45]), .atom 7] (.atom 8)]
def nuD (z:Bool):List Fact:=[oI .eql (.atom 1) (nI 0) (.bool z), .op (.bin .add ty_string) [.atom 8, .str [46,48]] (.atom 9), .op (.bin .add ty_string) [.atom 8, .str [46]] (.atom 10), .op (.slice ty_string true false) [.atom 4, .atom 6] (.atom 11), .op (.bin .add ty_string) [.atom 10, .atom 11] (.atom 12)]
theorem nu_ki:bl (fun b=>okR (.atom 8) (callF PG (fOrc noOwn (nuF b)) 10 f_r3_numeral [.agg [nI 2, .atom 0, .atom 1, .str []]] []))=true:=by kernel_rfl
theorem nu_kd:bl (fun b=>bl fun z=>okR (if z then .atom 9 else .atom 12) (callF PG (fOrc noOwn (nuF b++nuD z)) 10 f_r3_numeral [.agg [nI 3, .atom 0, .atom 1, .str []]] []))=true:=by kernel_rfl
theorem nu_li:okR (.atom 2) (callF PG (fOrc noOwn [.prim f_r3_numeral [.agg [nI 2, .atom 0, .atom 1, .str []]] (.atom 2)]) 10 f_r3_Lit [.agg [nI 2, .atom 0, .atom 1, .str []]] [])=true:=by kernel_rfl
theorem nu_ld:okR (.atom 2) (callF PG (fOrc noOwn [.prim f_r3_numeral [.agg [nI 3, .atom 0, .atom 1, .str []]] (.atom 2)]) 10 f_r3_Lit [.agg [nI 3, .atom 0, .atom 1, .str []]] [])=true:=by kernel_rfl
def nuNu (n:Int) (k:Nat):List PV :=
 [nI n,nI k,nI (-n),nI (k+1:Nat), .str (dgN n k),nI (dgN n k).length,nI ((dgN n k).length - k:Nat), .str (whN n k), .str (sgnL n++whN n k), .str (sgnL n++whN n k++[46,48]), .str (sgnL n++whN n k++[46]), .str (ptN n k), .str (sgnL n++whN n k++[46]++ptN n k)]
theorem dgs_ge:∀ (w m:Nat),w≤(dgs m w).length
 | 0,m=>Nat.zero_le _
 | w+1,m=>by
  rw [dgs_step (by omega),List.length_append]
  have:=dgs_ge w (m / 10)
  simp only [List.length_cons,List.length_nil,Nat.add_sub_cancel]
  omega
section
variable {n:Int} {k:Nat}
theorem dgN_len (hn : -9223372036854775808≤n∧n≤9223372036854775807) (hk:k≤6):k+1≤(dgN n k).length∧(dgN n k).length≤100 :=
 ⟨dgs_ge _ _,dgs_len 100 (Nat.lt_of_le_of_lt (show n.natAbs≤9223372036854775808 by omega) (by decide)) (by omega)⟩
theorem nuF_ok (hn : -9223372036854775808≤n∧n≤9223372036854775807) (hk:k≤6) (b:Bool) (hb:decide (n≥0)=b):FactsOk PG (nuL (nuNu n k)) (nuF b):=by
 obtain ⟨h1,h2⟩:=dgN_len hn hk
 have hD:=digits_ev (m:=n.natAbs) (w:=k+1) (by omega) (by omega)
 have e3:IntKind.i64.wrap ((k:Int)+1)=((k+1:Nat):Int):=by rw [w6_id (by omega) (by omega)];omega
 have e6:IntKind.i64.wrap (((dgN n k).length:Int) - (k:Int))=(((dgN n k).length - k:Nat):Int):=by rw [w6_id (by omega) (by omega)];omega
 have hwl:(whN n k).length≤100:=by unfold whN;rw [List.length_take];omega
 have hsg:sgnL n=if b then [] else [45]:=by
  unfold sgnL
  cases b with
  | true=>rw [if_pos (by simpa using hb)];rfl
  | false=>rw [if_neg (by simpa using hb)];rfl
 have hDig:FactsOk PG (nuL (nuNu n k)) (nuS b):=by
  cases b with
  | true =>
   have h0:n≥0:=by simpa using hb
   rw [show (-(n.natAbs:Int)) = -n by omega] at hD
   have e2:IntKind.i64.wrap (0 - n) = -n:=by rw [w6_id (by omega) (by omega)];omega
   exact ⟨fInt (a:=0) (b:=n) rfl rfl rfl (by simp only [intP];rw [e2]) (by decide) rfl,fprim hD rfl rfl rfl,trivial⟩
  | false =>
   have h0:¬ n≥0:=by simpa using hb
   rw [show (-(n.natAbs:Int))=n by omega] at hD
   exact ⟨fprim hD rfl rfl rfl,trivial⟩
 exact FactsOk.append hDig ⟨fCmp (a:=n) (b:=0) (c:=b) rfl rfl rfl (by simp only [intP];rw [hb]) (by decide) rfl,fInt (a:=k) (b:=1) rfl rfl rfl (by simp only [intP];rw [e3]) (by decide) rfl,fStrLen rfl rfl rfl,fInt (a:=(dgN n k).length) (b:=k) rfl rfl rfl (by simp only [intP];rw [e6]) (by decide) rfl,
  fSliceFr rfl rfl (by omega) rfl rfl rfl,fStrAdd (l:=if b then [] else [45]) (m:=whN n k) rfl rfl (by cases b<;>simp<;>omega) (by rw [← hsg];rfl) rfl,trivial⟩
theorem numeral_int (hn : -9223372036854775808≤n∧n≤9223372036854775807):Ev PG f_r3_numeral [vP (2,n,0,[])] (.str (sgnL n++whN n 0)) :=
 Ev.facts (nu:=nuL (nuNu n 0)) (args:=[.agg [nI 2, .atom 0, .atom 1, .str []]]) prog_ok (nuL_okB rfl) (okR_eq (bl_all nu_ki (decide (n≥0)))) (nuF_ok hn (by decide) _ rfl) rfl rfl
def ptT (n:Int) (k:Nat):List UInt8:=if k=0 then [48] else ptN n k
theorem numeral_dec (hn : -1000000000000000 < n∧n < 1000000000000000) (hk:k≤6):Ev PG f_r3_numeral [vP (3,n,k,[])] (.str (sgnL n++whN n k++46::ptT n k)):=by
 obtain ⟨h1,h2⟩:=dgN_len (n:=n) (k:=k) (by omega) hk
 have hwl:(whN n k).length≤100:=by unfold whN;rw [List.length_take];omega
 have hsl:(sgnL n).length≤1:=by unfold sgnL;split<;>simp
 have hpl:(ptN n k).length≤100:=by unfold ptN;rw [List.length_drop];omega
 have hf:∀ z,((k:Int)==0)=z→FactsOk PG (nuL (nuNu n k)) (nuF (decide (n≥0))++nuD z):=fun z hz =>
  FactsOk.append (nuF_ok (by omega) hk _ rfl) ⟨fCmp (c:=z) rfl rfl rfl (by rw [i64eq,hz]) (by decide) rfl,fStrAdd (l:=sgnL n++whN n k) (m:=[46,48]) rfl rfl (by simp;omega) rfl rfl,fStrAdd (l:=sgnL n++whN n k) (m:=[46]) rfl rfl (by simp;omega) rfl rfl,fSliceTo rfl rfl (by omega) rfl rfl rfl,
   fStrAdd (l:=sgnL n++whN n k++[46]) (m:=ptN n k) rfl rfl (by simp;omega) rfl rfl,trivial⟩
 by_cases hz:k=0
 ·have hz':((k:Int)==0)=true:=by rw [beq_iff_eq];omega
  have:=Ev.facts (nu:=nuL (nuNu n k)) (args:=[.agg [nI 3, .atom 0, .atom 1, .str []]]) prog_ok (nuL_okB rfl) (okR_eq (bl_all (bl_all nu_kd (decide (n≥0))) true)) (hf true hz') rfl rfl
  unfold ptT
  rw [if_pos hz]
  have e:sgnL n++whN n k++46::[48]=sgnL n++whN n k++[46,48]:=by simp
  rw [e]
  exact this
 ·have hz':((k:Int)==0)=false:=by rw [beq_eq_false_iff_ne];omega
  have:=Ev.facts (nu:=nuL (nuNu n k)) (args:=[.agg [nI 3, .atom 0, .atom 1, .str []]]) prog_ok (nuL_okB rfl) (okR_eq (bl_all (bl_all nu_kd (decide (n≥0))) false)) (hf false hz') rfl rfl
  unfold ptT
  rw [if_neg hz]
  have e:sgnL n++whN n k++46::ptN n k=sgnL n++whN n k++[46]++ptN n k:=by simp
  rw [e]
  exact this
theorem rlit_int (hn : -9223372036854775808≤n∧n≤9223372036854775807):Ev PG f_r3_Lit [vP (2,n,0,[])] (.str (sgnL n++whN n 0)) :=
 Ev.facts (nu:=nuL [nI n,nI 0, .str (sgnL n++whN n 0)]) (args:=[.agg [nI 2, .atom 0, .atom 1, .str []]]) prog_ok (nuL_okB rfl) (okR_eq nu_li) ⟨fprim (numeral_int hn) rfl rfl rfl,trivial⟩ rfl rfl
theorem rlit_dec (hn : -1000000000000000 < n∧n < 1000000000000000) (hk:k≤6):Ev PG f_r3_Lit [vP (3,n,k,[])] (.str (sgnL n++whN n k++46::ptT n k)) :=
 Ev.facts (nu:=nuL [nI n,nI k, .str (sgnL n++whN n k++46::ptT n k)]) (args:=[.agg [nI 3, .atom 0, .atom 1, .str []]]) prog_ok (nuL_okB rfl) (okR_eq nu_ld) ⟨fprim (numeral_dec hn hk) rfl rfl rfl,trivial⟩ rfl rfl
end
end Go.Proofs.YtdlkibeljkapeaaGreatDoor.Den
namespace Go.Proofs.YtdlkibeljkapeaaGreatDoor.Den
open Go Go.RowKit
def zer (a:Nat):List UInt8:=List.replicate a 48
theorem zer_digit (a:Nat):(zer a).all isDigit=true:=by
 unfold zer
 rw [List.all_replicate]
 by_cases h:a=0<;>simp [h]<;>decide
theorem numZ_app (a b:List UInt8) (n:Int):numZ (a++b) n=numZ b (numZ a n):=List.foldl_append
theorem dgs_num:∀ (j:Nat) {m w:Nat},m < 10 ^ j→w≤j→numZ (dgs m w) 0 = -(m:Int)∧(dgs m w).all isDigit=true
 | 0,m,w,h,hw=>by
  obtain rfl:m=0:=by simpa using h
  obtain rfl:w=0:=by omega
  rw [dgs_nil];exact ⟨rfl,rfl⟩
 | j+1,m,w,h,hw=>by
  by_cases hc:m=0∧w=0
  ·rw [hc.1,hc.2,dgs_nil];exact ⟨rfl,rfl⟩
  ·rw [dgs_step hc,numZ_app,List.all_append]
   obtain ⟨h1,h2⟩:=dgs_num j (m:=m / 10) (w:=w - 1) (by rw [Nat.pow_succ] at h;omega) (by omega)
   have e5:(UInt8.ofNat (48+m % 10)).toNat=48+m % 10:=by simp only [UInt8.toNat_ofNat'];omega
   rw [h1,h2]
   refine ⟨?_,?_⟩
   ·show 10*-((m / 10:Nat):Int) - (((UInt8.ofNat (48+m % 10)).toNat:Int) - 48)=_
    rw [e5];omega
   ·simp only [List.all_cons,List.all_nil,isDigit,e5,Bool.and_true,Bool.true_and,Bool.and_eq_true,decide_eq_true_eq]
    omega
theorem numZ_trimL:∀ (l:List UInt8),numZ (trimL l) 0=numZ l 0
 | []=>rfl
 | c::l=>by
  unfold trimL
  rw [List.dropWhile_cons]
  split
  ·rename_i hc
   rw [beq_iff_eq] at hc
   subst hc
   have:=numZ_trimL l
   unfold trimL at this
   rw [this];rfl
  ·rfl
theorem trimL_zer (a:Nat) (l:List UInt8):trimL (zer a++l)=trimL l:=by
 induction a with
 | zero=>rfl
 | succ a ih =>
  show trimL (48::(zer a++l))=_
  unfold trimL at ih ⊢
  rw [List.dropWhile_cons,if_pos (by decide)]
  exact ih
theorem trimR_zer (p:List UInt8) (b:Nat):trimR (p++zer b)=trimR p:=by
 unfold trimR
 rw [List.reverse_append,show (zer b).reverse=zer b by simp [zer],trimL_zer]
theorem trimR_last (q:List UInt8) {c:UInt8} (h:c≠48):trimR (q++[c])=q++[c]:=by
 unfold trimR trimL
 rw [List.reverse_append,List.reverse_cons,List.reverse_nil,List.nil_append,List.singleton_append,List.dropWhile_cons,if_neg (by simpa using h),List.reverse_cons,List.reverse_reverse]
section
variable {n:Int} {k:Nat}
theorem wp_eq (n:Int) (k:Nat):whN n k++ptN n k=dgN n k:=List.take_append_drop _ _
theorem dgN_num (hn : -9223372036854775808≤n∧n≤9223372036854775807) (hk:k≤6):numZ (dgN n k) 0 = -(n.natAbs:Int)∧(dgN n k).all isDigit=true :=
 dgs_num 100 (Nat.lt_of_le_of_lt (show n.natAbs≤9223372036854775808 by omega) (by decide)) (by omega)
theorem wh_digit (hn : -9223372036854775808≤n∧n≤9223372036854775807) (hk:k≤6):(whN n k).all isDigit=true∧(ptN n k).all isDigit=true:=by
 have:=(dgN_num hn hk).2
 rw [← wp_eq,List.all_append,Bool.and_eq_true] at this
 exact this
theorem ptN_last (hk:1≤k) (hm:n.natAbs % 10≠0):∃ q c,ptN n k=q++[c]∧c≠48:=by
 have h1:dgN n k=dgs (n.natAbs / 10) k++[UInt8.ofNat (48+n.natAbs % 10)]:=dgs_step (by omega)
 refine ⟨(dgs (n.natAbs / 10) k).drop ((dgN n k).length - k),UInt8.ofNat (48+n.natAbs % 10),?_,fun e=>?_⟩
 ·unfold ptN
  conv=>lhs;rw [h1]
  rw [List.drop_append_of_le_length]
  ·rw [h1]
  ·rw [List.length_append];simp;omega
 ·have:=congrArg UInt8.toNat e
  simp only [UInt8.toNat_ofNat'] at this
  have e48:(48:UInt8).toNat=48:=rfl
  omega
theorem ptN_len (hn : -9223372036854775808≤n∧n≤9223372036854775807) (hk:k≤6):(ptN n k).length=k:=by
 have:=(dgN_len hn hk).1
 unfold ptN
 rw [List.length_drop];omega
theorem meant_num (a b:Nat) (bl:Bool) (ha:a≤1000) (hb:b≤1000) (hn : -1000000000000000 < n∧n < 1000000000000000) (hk:k≤6) (hm:k=0∨n.natAbs % 10≠0) :
  Ev PG f_sql_meant [.str ((zer a++whN n k)++46::(ptT n k++zer b)), .bool bl] (.tup [vP (3,mtV bl (-(n.natAbs:Int)),k,[]), .bool true]):=by
 have hn' : -9223372036854775808≤n∧n≤9223372036854775807:=by omega
 obtain ⟨hd1,hd2⟩:=wh_digit hn' hk
 obtain ⟨hnum,_⟩:=dgN_num hn' hk
 have hl:=(dgN_len hn' hk).2
 have hwl:(whN n k).length≤100:=by unfold whN;rw [List.length_take];omega
 have hpt:(ptT n k).all isDigit=true:=by
  unfold ptT
  split
  ·rfl
  ·exact hd2
 have hptl:(ptT n k).length≤100:=by
  unfold ptT
  split
  ·simp
  ·rw [ptN_len hn' hk];omega
 have htr:trimR (ptT n k++zer b)=ptN n k:=by
  rw [trimR_zer]
  unfold ptT
  by_cases h0:k=0
  ·rw [if_pos h0]
   have:ptN n k=[]:=List.length_eq_zero_iff.1 (by rw [ptN_len hn' hk];exact h0)
   rw [this];decide
  ·rw [if_neg h0]
   obtain ⟨q,c,e,hc⟩:=ptN_last (n:=n) (k:=k) (by omega) (hm.resolve_left h0)
   rw [e];exact trimR_last q hc
 have hval:numZ (trimL ((zer a++whN n k)++trimR (ptT n k++zer b))) 0 = -(n.natAbs:Int):=by
  rw [htr,List.append_assoc,wp_eq,trimL_zer,numZ_trimL,hnum]
 have:=meant_dec (s:=(zer a++whN n k)++46::(ptT n k++zer b)) (w:=zer a++whN n k) (p:=ptT n k++zer b) bl (by simp [zer];omega) rfl (by rw [List.all_append,zer_digit,hd1];rfl) (by rw [List.all_append,zer_digit,hpt];rfl) hval (by omega) (by
  rw [htr,ptN_len hn' hk]
  rcases hm with h|h
  ·exact .inr ⟨by omega, .inl h⟩
  ·refine .inr ⟨hk, .inr ?_⟩
   rw [Int.neg_tmod,Int.tmod_eq_emod_of_nonneg (by omega)]
   omega)
 rw [htr,ptN_len hn' hk] at this
 have e:(if -(n.natAbs:Int)=0 then (0:Int) else ((k:Nat):Int))=k:=by
  split
  ·rcases hm with h|h<;>omega
  ·rfl
 rw [e] at this
 exact this
end
end Go.Proofs.YtdlkibeljkapeaaGreatDoor.Den
namespace Go.Proofs.YtdlkibeljkapeaaGreatDoor.Den
open Go Go.RowKit
end Go.Proofs.YtdlkibeljkapeaaGreatDoor.Den
namespace Go.Proofs.YtdlkibeljkapeaaGreatDoor.Den
open Go Go.RowKit
theorem dgs_zero:∀ w:Nat,dgs 0 w=zer w
 | 0=>dgs_nil
 | w+1=>by
  rw [dgs_step (by omega),show (0:Nat) / 10=0 from rfl,Nat.add_sub_cancel,dgs_zero w]
  unfold zer
  rw [List.replicate_succ'];rfl
theorem dgs_pos {m:Nat} (h:0 < m):dgs m 0=dgs m 1:=by
 rw [dgs_step (by omega),dgs_step (m:=m) (w:=1) (by omega)]
theorem dgs_dec (m:Nat):∀ w:Nat,1≤w→dgs m w=zer (w - (Lib.decDigits m).length)++Lib.decDigits m:=by
 induction m using Lib.decDigits.induct with
 | case1 m h =>
  intro w hw
  have e:m / 10=0:=Nat.div_eq_of_lt h
  rw [dgs_step (by omega),e,dgs_zero,Lib.decDigits_one h,Nat.mod_eq_of_lt h]
  rfl
 | case2 m h ih =>
  intro w hw
  rw [Lib.decDigits,dif_neg h,dgs_step (by omega)]
  by_cases h1:w=1
  ·subst h1
   have hm:0 < m / 10:=by omega
   have hl:1≤(Lib.decDigits (m / 10)).length:=by
    rw [Lib.decDigits_length]
    unfold Lib.nDigits
    split<;>omega
   have:=ih 1 (Nat.le_refl 1)
   rw [show 1 - 1=0 from rfl,dgs_pos hm,this]
   rw [List.length_append,show 1 - (Lib.decDigits (m / 10)).length=0 by omega,show 1 - ((Lib.decDigits (m / 10)).length+[UInt8.ofNat (48+m % 10)].length)=0 by simp]
   simp
  ·have:=ih (w - 1) (by omega)
   rw [this,List.length_append,List.length_singleton,show w - 1 - (Lib.decDigits (m / 10)).length=w - ((Lib.decDigits (m / 10)).length+1) by omega,List.append_assoc]
theorem dec_dgs (m:Nat):Lib.decDigits m=dgs m 1:=by
 have h:=dgs_dec m 1 (Nat.le_refl 1)
 have hl:1≤(Lib.decDigits m).length:=by
  rw [Lib.decDigits_length]
  unfold Lib.nDigits
  split<;>omega
 rw [h,show 1 - (Lib.decDigits m).length=0 by omega]
 rfl
theorem itoa_dgs (n:Int):Lib.itoa n=sgnL n++Lib.decDigits n.natAbs:=by
 unfold Lib.itoa sgnL
 by_cases h:n < 0
 ·rw [if_pos h,if_neg (by omega)];rfl
 ·rw [if_neg h,if_pos (by omega),show n.toNat=n.natAbs by omega];rfl
theorem itoa_int (n:Int):Lib.itoa n=sgnL n++whN n 0:=by
 rw [itoa_dgs,dec_dgs]
 unfold whN dgN
 rw [Nat.sub_zero,List.take_length]
theorem li_ki:okR (.atom 1) (callF PG (fOrc noOwn [.prim f_strconv_Itoa [.atom 0] (.atom 1)]) 10 f_sql_Lit [.agg [nI 2, .atom 0,nI 0, .str []]] [])=true:=by kernel_rfl
theorem slit_int {n:Int} (hn : -9223372036854775808≤n∧n≤9223372036854775807):Ev PG f_sql_Lit [vP (2,n,0,[])] (.str (sgnL n++whN n 0)):=by
 have h:=itoa_ev n hn
 rw [itoa_int] at h
 exact Ev.facts (nu:=nuL [nI n, .str (sgnL n++whN n 0)]) (args:=[.agg [nI 2, .atom 0,nI 0, .str []]]) prog_ok (nuL_okB rfl) (okR_eq li_ki) ⟨fprim h rfl rfl rfl,trivial⟩ rfl rfl
end Go.Proofs.YtdlkibeljkapeaaGreatDoor.Den
namespace Go.Proofs.YtdlkibeljkapeaaGreatDoor.Den
open Go Go.RowKit
def tpF (b:Bool):List Fact:=[.op (.len ty_string) [.atom 0] (.atom 1),oI .geq (.atom 1) (nI 1) (.bool true), .op (.slice ty_string false true) [.atom 0,nI 1] (.atom 2), .op (.bin .eql ty_string) [.atom 2, .str [45]] (.bool b), .op (.slice ty_string true false) [.atom 0,nI 1] (.atom 3)]
theorem tp_k:bl (fun b=>okR (if b then .atom 3 else .atom 0) (callF PG (fOrc noOwn (tpF b)) 10 f_strings_TrimPrefix [.atom 0, .str [45]] []))=true:=by kernel_rfl
theorem trimPrefix_ev {c:UInt8} {s:List UInt8}:Ev PG f_strings_TrimPrefix [.str (c::s), .str [45]] (.str (if c==45 then s else c::s)):=by
 have hf:∀ b,(c==45)=b→FactsOk PG (nuL [.str (c::s),nI (c::s).length, .str [c], .str s]) (tpF b):=fun b hb =>
  ⟨fStrLen rfl rfl rfl,fCmp (a:=(c::s).length) (b:=1) (c:=true) rfl rfl rfl (by simp only [intP];rw [decide_eq_true (by rw [List.length_cons];omega)]) (by decide) rfl,fSliceFr (s:=c::s) (j:=1) rfl rfl (by rw [List.length_cons];omega) rfl rfl rfl,fStrEq (l:=[c]) (m:=[45]) rfl rfl (same_str _ _) (by show PV.bool b = .bool ([c]==[45]);rw [← hb];simp) rfl,
   fSliceTo (s:=c::s) (i:=1) rfl rfl (by rw [List.length_cons];omega) rfl rfl rfl,trivial⟩
 cases hb:(c==45) with
 | true=>exact Ev.facts (args:=[.atom 0, .str [45]]) prog_ok (nuL_okB rfl) (okR_eq (bl_all tp_k true)) (hf true hb) rfl rfl
 | false=>exact Ev.facts (args:=[.atom 0, .str [45]]) prog_ok (nuL_okB rfl) (okR_eq (bl_all tp_k false)) (hf false hb) rfl rfl
theorem rep_k:((List.range 7).all fun c=>okR (.str (zer c)) (callF PG noOrc 40 f_strings_Repeat [.str [48],nI (c:Nat)] []))=true:=by kernel_rfl
theorem repeat_ev {c:Nat} (h:c≤6):Ev PG f_strings_Repeat [.str [48],nI c] (.str (zer c)) :=
 Ev.ofD (nu:=nuL []) (args:=[.str [48],nI c]) prog_ok (nuL_okB rfl) (noOrc_ok PG _) (okR_eq (List.all_eq_true.1 rep_k c (by rw [List.mem_range];omega))) (fun p hp=>by simp at hp;rcases hp with rfl|rfl<;>exact ⟨rfl,rfl⟩) rfl rfl
def dcA (b:Bool):List Fact:=[.prim f_strconv_Itoa [.atom 0] (.atom 1), .prim f_strings_HasPrefix [.atom 1, .str [45]] (.bool b), .prim f_strings_TrimPrefix [.atom 1, .str [45]] (.atom 2)]
def dc0:List Fact:=[.op (.bin .add ty_string) [.atom 2, .str [46,48]] (.atom 3)]
def dcK (k L:Nat):List Fact:=[.op (.len ty_string) [.atom 2] (nI L), .prim f_strings_Repeat [.str [48],nI (k+1 - L:Nat)] (.str (zer (k+1 - L))), .op (.bin .add ty_string) [.str (zer (k+1 - L)), .atom 2] (.atom 4), .op (.len ty_string) [.atom 4] (nI (k+1 - L+L:Nat)),
 .op (.slice ty_string false true) [.atom 4,nI (k+1 - L+L - k:Nat)] (.atom 5), .op (.bin .add ty_string) [.atom 5, .str [46]] (.atom 6), .op (.slice ty_string true false) [.atom 4,nI (k+1 - L+L - k:Nat)] (.atom 7), .op (.bin .add ty_string) [.atom 6, .atom 7] (.atom 3)]
def dcB:List Fact:=[.op (.bin .add ty_string) [.str [45], .atom 3] (.atom 9)]
theorem dc_k0:bl (fun b=>okR (if b then .atom 9 else .atom 3) (callF PG (fOrc noOwn (dcA b++(dc0++dcB))) 10 f_sql_decimal [.agg [nI 3, .atom 0,nI 0, .str []]] []))=true:=by kernel_rfl
theorem dc_kk:bl (fun b=>(List.range 6).all fun k=>(List.range 16).all fun L=>okR (if b then .atom 9 else .atom 3) (callF PG (fOrc noOwn (dcA b++(dcK (k+1) (L+1)++dcB))) 10 f_sql_decimal [.agg [nI 3, .atom 0,nI (k+1:Nat), .str []]] []))=true:=by kernel_rfl
theorem dc_li:okR (.atom 2) (callF PG (fOrc noOwn [.prim f_sql_decimal [.agg [nI 3, .atom 0, .atom 1, .str []]] (.atom 2)]) 10 f_sql_Lit [.agg [nI 3, .atom 0, .atom 1, .str []]] [])=true:=by kernel_rfl
section
variable {n:Int} {k:Nat}
theorem dec_len (hn : -1000000000000000 < n∧n < 1000000000000000):1≤(Lib.decDigits n.natAbs).length∧(Lib.decDigits n.natAbs).length≤15:=by
 rw [dec_dgs]
 exact ⟨dgs_ge _ _,dgs_len 15 (by omega) (by decide)⟩
theorem dec_digit (hn : -1000000000000000 < n∧n < 1000000000000000):(Lib.decDigits n.natAbs).all isDigit=true:=by
 rw [dec_dgs]
 exact (dgs_num 15 (by omega) (by decide)).2
def dcNu (n:Int) (x s2 w p:List UInt8):List PV:=[nI n, .str (sgnL n++Lib.decDigits n.natAbs), .str (Lib.decDigits n.natAbs), .str x, .str s2, .str w, .str (w++[46]), .str p,nI 0, .str ([45]++x)]
theorem dcA_ok (hn : -1000000000000000 < n∧n < 1000000000000000) (x s2 w p:List UInt8):FactsOk PG (nuL (dcNu n x s2 w p)) (dcA (decide (n < 0))):=by
 have h1:=itoa_ev n (by omega)
 rw [itoa_dgs] at h1
 have h2:=hasPrefix_ev (sgnL n++Lib.decDigits n.natAbs) [45]
 obtain ⟨c,w',hw⟩:∃ c w',Lib.decDigits n.natAbs=c::w':=by
  have:=(dec_len hn).1
  cases hw:Lib.decDigits n.natAbs with
  | nil=>rw [hw] at this;simp at this
  | cons c w'=>exact ⟨c,w',rfl⟩
 have hd:=dec_digit hn
 have hc:(c==45)=false:=by
  rw [hw,List.all_cons,Bool.and_eq_true] at hd
  exact beq_eq_false_iff_ne.2 fun e=>by subst e;exact absurd hd.1 (by decide)
 by_cases h0:n < 0
 ·have hs:sgnL n=[45]:=if_neg (by omega)
  have h3:=trimPrefix_ev (c:=45) (s:=Lib.decDigits n.natAbs)
  rw [decide_eq_true h0]
  rw [hs] at h1 h2
  have e:([45]:List UInt8).isPrefixOf ([45]++Lib.decDigits n.natAbs)=true:=by simp [List.isPrefixOf]
  rw [e] at h2
  unfold dcNu
  rw [hs]
  exact ⟨fprim h1 rfl rfl rfl,fprim h2 rfl rfl rfl,fprim h3 rfl rfl rfl,trivial⟩
 ·have hs:sgnL n=[]:=if_pos (by omega)
  have h3:=trimPrefix_ev (c:=c) (s:=w')
  rw [hc,← hw] at h3
  rw [decide_eq_false h0]
  rw [hs] at h1 h2
  have e:([45]:List UInt8).isPrefixOf ([]++Lib.decDigits n.natAbs)=false:=by
   rw [List.nil_append,hw]
   simp only [List.isPrefixOf,Bool.and_true]
   exact beq_eq_false_iff_ne.2 fun e=>by subst e;cases hc
  rw [e] at h2
  unfold dcNu
  rw [hs]
  exact ⟨fprim h1 rfl rfl rfl,fprim h2 rfl rfl rfl,fprim h3 rfl rfl rfl,trivial⟩
theorem dcB_ok (x s2 w p:List UInt8) (hx:x.length≤1000):FactsOk PG (nuL (dcNu n x s2 w p)) dcB:=⟨fStrAdd (l:=[45]) (m:=x) rfl rfl (by simp;omega) rfl rfl,trivial⟩
theorem decimal_ev (hn : -1000000000000000 < n∧n < 1000000000000000) (hk:k≤6):Ev PG f_sql_decimal [vP (3,n,k,[])] (.str (sgnL n++whN n k++46::ptT n k)):=by
 have hn' : -9223372036854775808≤n∧n≤9223372036854775807:=by omega
 obtain ⟨hl1,hl15⟩:=dec_len hn
 obtain ⟨hg1,hg2⟩:=dgN_len hn' hk
 have hwl:(whN n k).length≤100:=by unfold whN;rw [List.length_take];omega
 have hpl:(ptN n k).length≤100:=by unfold ptN;rw [List.length_drop];omega
 have hfin:∀ (x s2 w p:List UInt8) (r:PV) (fs:List Fact) (b:Bool),decide (n < 0)=b→okR (if b then .atom 9 else .atom 3) (callF PG (fOrc noOwn (dcA b++(fs++dcB))) 10 f_sql_decimal [.agg [nI 3, .atom 0,nI k, .str []]] [])=true→x.length≤1000→FactsOk PG (nuL (dcNu n x s2 w p)) fs→x=whN n k++46::ptT n k →
   Ev PG f_sql_decimal [vP (3,n,k,[])] (.str (sgnL n++whN n k++46::ptT n k)):=fun x s2 w p r fs b hb hkk hx hfs hxe=>by
  have hA:=dcA_ok hn x s2 w p
  rw [hb] at hA
  rw [List.append_assoc,← hxe]
  cases b with
  | true =>
   rw [show sgnL n=[45] from if_neg (by have:=of_decide_eq_true hb;omega)]
   exact Ev.facts (nu:=nuL (dcNu n x s2 w p)) (args:=[.agg [nI 3, .atom 0,nI k, .str []]]) prog_ok (nuL_okB rfl) (okR_eq hkk) (FactsOk.append hA (FactsOk.append hfs (dcB_ok x s2 w p hx))) rfl rfl
  | false =>
   rw [show sgnL n=[] from if_pos (by have:=of_decide_eq_false hb;omega)]
   exact Ev.facts (nu:=nuL (dcNu n x s2 w p)) (args:=[.agg [nI 3, .atom 0,nI k, .str []]]) prog_ok (nuL_okB rfl) (okR_eq hkk) (FactsOk.append hA (FactsOk.append hfs (dcB_ok x s2 w p hx))) rfl rfl
 by_cases h0:k=0
 ·subst h0
  have hw:whN n 0=Lib.decDigits n.natAbs:=by
   rw [dec_dgs];unfold whN dgN
   rw [Nat.sub_zero,List.take_length]
  refine hfin (Lib.decDigits n.natAbs++[46,48]) [] [] [] .nilptr dc0 _ rfl (bl_all dc_k0 _) (by simp;omega) ⟨fStrAdd (l:=Lib.decDigits n.natAbs) (m:=[46,48]) rfl rfl (by simp;omega) rfl rfl,trivial⟩ (by rw [hw];rfl)
 ·obtain ⟨k,rfl⟩:∃ j,k=j+1:=⟨k - 1,by omega⟩
  obtain ⟨L,hL⟩:∃ j,(Lib.decDigits n.natAbs).length=j+1:=⟨(Lib.decDigits n.natAbs).length - 1,by omega⟩
  have hs2:dgN n (k+1)=zer (k+1+1 - (L+1))++Lib.decDigits n.natAbs:=by
   rw [← hL];exact dgs_dec _ _ (by omega)
  have hlen:(dgN n (k+1)).length=k+1+1 - (L+1)+(L+1):=by rw [hs2,List.length_append,hL];simp [zer]
  have hkk:=List.all_eq_true.1 (List.all_eq_true.1 (bl_all dc_kk (decide (n < 0))) k (by rw [List.mem_range];omega)) L (by rw [List.mem_range];omega)
  refine hfin (whN n (k+1)++[46]++ptN n (k+1)) (dgN n (k+1)) (whN n (k+1)) (ptN n (k+1)) .nilptr (dcK (k+1) (L+1)) _ rfl hkk (by simp;omega) ?_ (by unfold ptT;rw [if_neg (by omega)];simp)
  have hw:(dgN n (k+1)).take (k+1+1 - (L+1)+(L+1) - (k+1))=whN n (k+1):=by unfold whN;rw [hlen]
  have hp:(dgN n (k+1)).drop (k+1+1 - (L+1)+(L+1) - (k+1))=ptN n (k+1):=by unfold ptN;rw [hlen]
  exact ⟨fStrLen' (n:=((L+1:Nat):Int)) rfl (by rw [hL]) rfl rfl,fprim (repeat_ev (by omega)) rfl rfl rfl,fStrAdd (l:=zer (k+1+1 - (L+1))) (m:=Lib.decDigits n.natAbs) rfl rfl (by simp [zer];omega) (by rw [← hs2];rfl) rfl,fStrLen' (s:=dgN n (k+1)) (n:=((k+1+1 - (L+1)+(L+1):Nat):Int)) rfl (by rw [hlen]) rfl rfl,
   fSliceFr (s:=dgN n (k+1)) rfl rfl (by omega) hw rfl rfl,fStrAdd (l:=whN n (k+1)) (m:=[46]) rfl rfl (by simp;omega) rfl rfl,fSliceTo (s:=dgN n (k+1)) rfl rfl (by omega) hp rfl rfl,fStrAdd (l:=whN n (k+1)++[46]) (m:=ptN n (k+1)) rfl rfl (by simp;omega) rfl rfl,trivial⟩
theorem slit_dec (hn : -1000000000000000 < n∧n < 1000000000000000) (hk:k≤6):Ev PG f_sql_Lit [vP (3,n,k,[])] (.str (sgnL n++whN n k++46::ptT n k)) :=
 Ev.facts (nu:=nuL [nI n,nI k, .str (sgnL n++whN n k++46::ptT n k)]) (args:=[.agg [nI 3, .atom 0, .atom 1, .str []]]) prog_ok (nuL_okB rfl) (okR_eq dc_li) ⟨fprim (decimal_ev hn hk) rfl rfl rfl,trivial⟩ rfl rfl
end
end Go.Proofs.YtdlkibeljkapeaaGreatDoor.Den
namespace Go.Proofs.YtdlkibeljkapeaaGreatDoor.Den
open Go Go.RowKit
theorem index_miss (c:UInt8):∀ {w:List UInt8},c ∉ w→Lib.index w [c] = -1
 | [],_=>rfl
 | d::l,h=>by
  simp only [List.mem_cons,not_or] at h
  have hc:([c]:List UInt8).isPrefixOf (d::l)=false:=by
   simp only [List.isPrefixOf,Bool.and_true,beq_eq_false_iff_ne]
   exact h.1
  unfold Lib.index
  rw [hc,index_miss c h.2]
  rfl
theorem index_found (c:UInt8):∀ {w:List UInt8} (p:List UInt8),c ∉ w→Lib.index (w++c::p) [c]=w.length
 | [],p,_=>by
  show Lib.index (c::p) [c]=0
  unfold Lib.index
  simp [List.isPrefixOf]
 | d::l,p,h=>by
  simp only [List.mem_cons,not_or] at h
  have hc:([c]:List UInt8).isPrefixOf (d::(l++c::p))=false:=by
   simp only [List.isPrefixOf,Bool.and_true,beq_eq_false_iff_ne]
   exact h.1
  show Lib.index (d::(l++c::p)) [c]=_
  unfold Lib.index
  rw [hc,index_found c p h.2]
  have:((l.length:Int)==-1)=false:=by rw [beq_eq_false_iff_ne];omega
  simp [this]
theorem esc_app:∀ (a b:List UInt8),esc (a++b)=esc a++esc b
 | [],b=>rfl
 | c::a,b=>by
  by_cases h:c=39
  ·subst h
   show esc (39::(a++b))=_
   rw [esc_q,esc_q,esc_app a b];rfl
  ·show esc (c::(a++b))=_
   rw [esc_c h,esc_c h,esc_app a b];rfl
theorem esc_none:∀ {w:List UInt8},(39:UInt8) ∉ w→esc w=w
 | [],_=>rfl
 | c::w,h=>by
  simp only [List.mem_cons,not_or] at h
  rw [esc_c (fun e=>h.1 e.symm),esc_none h.2]
theorem replace_esc:∀ (k:Nat) (s:List UInt8),s.length≤k→Lib.replaceK [39] [39,39] (Lib.count s [39]) s=esc s∧Lib.count s [39]≤s.length
 | 0,s,h=>by
  obtain rfl:s=[]:=List.length_eq_zero_iff.1 (by omega)
  exact ⟨by rw [Lib.count_miss rfl];rfl,by rw [Lib.count_miss rfl];simp⟩
 | k+1,s,h=>by
  by_cases hm:(39:UInt8)∈s
  ·obtain ⟨w,r,hs,hw⟩:=List.eq_append_cons_of_mem hm
   have hi:=index_found 39 r hw
   have hl:s.length=w.length+(r.length+1):=by rw [hs];simp
   have hd:s.drop (w.length+([39]:List UInt8).length)=r:=by rw [hs];simp
   have ht:s.take w.length=w:=by rw [hs];simp
   rw [← hs] at hi
   obtain ⟨h1,h2⟩:=replace_esc k r (by omega)
   have hc:=Lib.count_hit (s:=s) (sub:=[39]) (by simp) hi
   rw [hd] at hc
   refine ⟨?_,by omega⟩
   rw [hc,Nat.add_comm,Lib.replaceK_hit _ _ _ _ _ hi,hd,ht,h1,hs,esc_app,esc_none hw,esc_q]
   simp
  ·have hi:=index_miss 39 hm
   rw [Lib.count_miss hi,esc_none hm]
   exact ⟨rfl,Nat.zero_le _⟩
theorem replaceAll_esc (s:List UInt8):Lib.replaceAll s [39] [39,39]=esc s:=by
 unfold Lib.replaceAll Lib.replace
 rw [if_neg (by decide)]
 unfold Lib.replaceNum
 rw [if_pos (.inl (by decide))]
 exact (replace_esc s.length s (Nat.le_refl _)).1
end Go.Proofs.YtdlkibeljkapeaaGreatDoor.Den
namespace Go.Proofs.YtdlkibeljkapeaaGreatDoor.Den
open Go Go.RowKit
theorem tx_li:okR (.atom 3) (callF PG (fOrc noOwn [.prim f_strings_ReplaceAll [.atom 0, .str [39], .str [39,39]] (.atom 1), .op (.bin .add ty_string) [.str [39], .atom 1] (.atom 2), .op (.bin .add ty_string) [.atom 2, .str [39]] (.atom 3)]) 10 f_sql_Lit [.agg [nI 4,nI 0,nI 0, .atom 0]] [])=true:=by kernel_rfl
theorem esc_len2:∀ l:List UInt8,(esc l).length≤2*l.length
 | []=>by simp [esc]
 | c::l=>by
  have:=esc_len2 l
  by_cases h:c=39
  ·subst h;rw [esc_q];simp;omega
  ·rw [esc_c h];simp;omega
theorem slit_text {l:List UInt8} (hl:l.length≤40):Ev PG f_sql_Lit [vP (4,0,0,l)] (.str (39::(esc l++[39]))):=by
 have h:=replaceAll_ev l [39] [39,39] (by omega) (by decide) (by
  have h2:=(replace_esc l.length l (Nat.le_refl _)).2
  have e:Lib.countB ⟨l.toArray⟩ ⟨([39]:List UInt8).toArray⟩=Lib.count l [39]:=rfl
  rw [e];simp only [List.length_cons,List.length_nil];omega)
 rw [replaceAll_esc] at h
 have he:=esc_len2 l
 exact Ev.facts (nu:=nuL [.str l, .str (esc l), .str ([39]++esc l), .str ([39]++esc l++[39])]) (args:=[.agg [nI 4,nI 0,nI 0, .atom 0]]) prog_ok (nuL_okB rfl) (okR_eq tx_li) ⟨fprim h rfl rfl rfl,fStrAdd (l:=[39]) (m:=esc l) rfl rfl (by simp;omega) rfl rfl,fStrAdd (l:=[39]++esc l) (m:=[39]) rfl rfl (by simp;omega) rfl rfl,trivial⟩ rfl rfl
def rxT:List (Nat × PV):=[(1, .box 0 0),(5, .atom 1),(6, .atom 2)]
def rxS:List Res:=[.box [nI 4,nI 0,nI 0, .atom 0]]
def rxA (b:Bool):List Fact:=[.op (.len ty_string) [.atom 0] (.atom 3),oI .lss (.atom 2) (.atom 3) (.bool b)]
def rxB (q:Bool):List Fact:=[oI .add (.atom 2) (nI 1) (.atom 4), .op (.slice ty_string true true) [.atom 0, .atom 2, .atom 4] (.atom 5), .op (.bin .add ty_string) [.atom 1, .atom 5] (.atom 6), .op (.index ty_string) [.atom 0, .atom 2] (.atom 7),bI .eql (.atom 7) 39 q]
def rxQ:Bool→List Fact
 | true=>[.op (.bin .add ty_string) [.atom 6, .str [39]] (.atom 8)]
 | false=>[]
noncomputable abbrev rxRun (fs:List Fact):Option (Ex × St):=execN PG (fOrc noOwn fs) (callF PG (fOrc noOwn fs) 5) ((fOrc noOwn fs).loop f_r3_Lit) 5 3 (loopAt PG f_r3_Lit 18) ⟨rxT,rxS⟩
theorem rx_lone:loneB PG f_r3_Lit 18=true:=by kernel_rfl
theorem rx_a:runsB (rxRun (rxA false)) (.exit 3) [(1, .box 0 0),(5, .atom 1)] rxS=true:=by kernel_rfl
theorem rx_b:bl (fun q=>runsB (rxRun (rxA true++(rxB q++rxQ q))) .normal [(1, .box 0 0),(5, .atom (if q then 8 else 6)),(6, .atom 4)] rxS)=true:=by kernel_rfl
theorem rx_f:okR (.atom 2) (callF PG (fOrc noOwn [.loop f_r3_Lit 18 [(1, .box 0 0),(5, .str [39]),(6,nI 0)] [.box [nI 4,nI 0,nI 0, .atom 0]] (.exit 3) [(1, .box 0 0),(5, .atom 1)] [.box [nI 4,nI 0,nI 0, .atom 0]], .op (.bin .add ty_string) [.atom 1, .str [39]] (.atom 2)]) 10 f_r3_Lit [.agg [nI 4,nI 0,nI 0, .atom 0]] [])=true:=by kernel_rfl
def rxNu (s acc:List UInt8) (i:Nat) (c:UInt8):List PV:=[.str s, .str acc,nI i,nI s.length,nI (i+1:Nat), .str [c], .str (acc++[c]),nB c, .str (acc++[c]++[39])]
set_option maxRecDepth 20000 in
theorem rx_loop {s:List UInt8} (hs:s.length≤1000):∀ (l:List UInt8) (acc:List UInt8) (i:Nat),s.drop i=l→i≤s.length→acc.length≤2*i+1 →
  RunsR PG (ntOf PG f_r3_Lit) (loopAt PG f_r3_Lit 18) [(1, .box 0 0),(5, .str acc),(6,nI i)] [.box [nI 4,nI 0,nI 0, .str s]] (.exit 3) [(1, .box 0 0),(5, .str (acc++esc l))] [.box [nI 4,nI 0,nI 0, .str s]]:=by
 intro l
 induction l with
 | nil =>
  intro acc i hi h1 ha
  have hlen:s.length≤i:=by
   have:=congrArg List.length hi
   simp at this;omega
  have e:acc++esc []=acc:=List.append_nil acc
  rw [e]
  refine RunsR.leave ?_ (fun h=>by cases h)
  exact RunsP.chk (nu:=nuL (rxNu s acc i 0)) prog_ok (nuL_okB rfl) (T:=rxT) (s:=rxS) (T':=[(1, .box 0 0),(5, .atom 1)]) (s':=rxS) rx_lone rx_a
   ⟨fStrLen rfl rfl rfl,fCmp (c:=false) (a:=i) (b:=s.length) rfl rfl rfl (by simp only [intP];rw [decide_eq_false (by omega)]) (by decide) rfl,trivial⟩ rfl rfl rfl
 | cons c l ih =>
  intro acc i hi h1 ha
  obtain ⟨hil,hx⟩:=drop_le hi
  have hl:s.drop (i+1)=l:=by
   have:=congrArg List.tail hi
   simpa using this
  have e4:IntKind.i64.wrap ((i:Int)+1)=((i+1:Nat):Int):=by rw [w6_id (by omega) (by omega)];omega
  have hsl:(s.take (i+1)).drop i=[c]:=take_one hx
  have hB:∀ q,(c==39)=q→FactsOk PG (nuL (rxNu s acc i c)) (rxA true++(rxB q++rxQ q)):=fun q hq =>
   FactsOk.append ⟨fStrLen rfl rfl rfl,fCmp (c:=true) (a:=i) (b:=s.length) rfl rfl rfl (by simp only [intP];rw [decide_eq_true (by omega)]) (by decide) rfl,trivial⟩ (FactsOk.append ⟨fInt (a:=i) (b:=1) rfl rfl rfl (by simp only [intP];rw [e4]) (by decide) rfl,fSlice (i:=i) (j:=i+1) rfl rfl rfl (by omega) hsl rfl rfl,
    fStrAdd (l:=acc) (m:=[c]) rfl rfl (by simp;omega) rfl rfl,fStrIx rfl rfl hx rfl rfl,fU8 (a:=(c.toNat:Nat)) (b:=(39:Nat)) rfl rfl (u8eq (c:=c) (n:=39) (b:=q) (by decide) hq) rfl (by decide) rfl,trivial⟩ (by
     cases q with
     | true=>exact ⟨fStrAdd (l:=acc++[c]) (m:=[39]) rfl rfl (by simp;omega) rfl rfl,trivial⟩
     | false=>exact trivial))
  by_cases hc:c=39
  ·have h:=ih (acc++[c]++[39]) (i+1) hl (by omega) (by simp;omega)
   have e:acc++[c]++[39]++esc l=acc++esc (c::l):=by rw [hc,esc_q];simp
   rw [e] at h
   refine RunsR.round ?_ h
   exact RunsP.chk (nu:=nuL (rxNu s acc i c)) prog_ok (nuL_okB rfl) (T:=rxT) (s:=rxS) (T':=[(1, .box 0 0),(5, .atom 8),(6, .atom 4)]) (s':=rxS) rx_lone (bl_all rx_b true) (hB true (by rw [hc];rfl)) rfl rfl rfl
  ·have h:=ih (acc++[c]) (i+1) hl (by omega) (by simp;omega)
   have e:acc++[c]++esc l=acc++esc (c::l):=by rw [esc_c hc];simp
   rw [e] at h
   refine RunsR.round ?_ h
   exact RunsP.chk (nu:=nuL (rxNu s acc i c)) prog_ok (nuL_okB rfl) (T:=rxT) (s:=rxS) (T':=[(1, .box 0 0),(5, .atom 6),(6, .atom 4)]) (s':=rxS) rx_lone (bl_all rx_b false) (hB false (beq_eq_false_iff_ne.2 hc)) rfl rfl rfl
theorem rlit_text {l:List UInt8} (hl:l.length≤40):Ev PG f_r3_Lit [vP (4,0,0,l)] (.str (39::(esc l++[39]))):=by
 have h:=rx_loop (s:=l) (by omega) l [39] 0 rfl (Nat.zero_le _) (by simp)
 have he:=esc_len2 l
 exact Ev.facts (nu:=nuL [.str l, .str ([39]++esc l), .str ([39]++esc l++[39])]) (args:=[.agg [nI 4,nI 0,nI 0, .atom 0]]) prog_ok (nuL_okB rfl) (okR_eq rx_f) ⟨fLoopOk rx_lone (Nat.le_refl _) h rfl,fStrAdd (l:=[39]++esc l) (m:=[39]) rfl rfl (by simp;omega) rfl rfl,trivial⟩ rfl rfl
end Go.Proofs.YtdlkibeljkapeaaGreatDoor.Den
