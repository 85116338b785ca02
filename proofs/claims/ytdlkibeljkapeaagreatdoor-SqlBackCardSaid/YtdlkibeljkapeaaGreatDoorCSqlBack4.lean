-- Written by drive.py and pack.py (programs of this proof's own) through the kit's printer; not trusted: Lean checks it.
import Derived.Test.YtdlkibeljkapeaaGreatDoorCSqlBack3
namespace Go.Proofs.YtdlkibeljkapeaaGreatDoor.Den
open Go Go.RowKit
def Eo (m w:Nat):List UInt8:=if m=0∧w=0 then [] else Eo (m / 10) (w - 1)++[UInt8.ofNat (48+m % 10)]
termination_by m+w
decreasing_by
 rename_i h
 have:m / 10≤m:=Nat.div_le_self m 10
 rcases Nat.eq_zero_or_pos m with h0|h0
 ·subst h0;simp at h ⊢;omega
 ·have:m / 10 < m:=Nat.div_lt_self h0 (by decide)
  omega
def Vn:List (Nat × PV):=[(0, .atom 0),(1, .atom 1),(5, .atom 2)]
def S5 (b1 b2:Bool):List Ao:=[oI .lss (.atom 0) (nI 0) (.bool b1), .op (.len Ar) [.atom 2] (.atom 3),oI .lss (.atom 3) (.atom 1) (.bool b2)]
def diB:List Ao:=[oI .rem (.atom 0) (nI 10) (.atom 4),oI .sub (nI 48) (.atom 4) (.atom 5), .op (.conv Eh Ey) [.atom 5] (.atom 6), .op (.conv Wh Ar) [.slice 1 [.atom 6]] (.atom 7), .op (.bin .add Ar) [.atom 7, .atom 2] (.atom 8),oI .quo (.atom 0) (nI 10) (.atom 9)]
noncomputable abbrev Ac8 (fs:List Ao):Option (Ex × St):=Gv PG (Aj An fs) (Am PG (Aj An fs) 5) ((Aj An fs).loop J9) 5 3 (Du PG J9 2) ⟨Vn,[]⟩
theorem Ut:Hj PG J9 2=true:=by kernel_rfl
theorem A0k:Dc (Ac8 (S5 false false)) (.exit 0) [(5, .atom 2)] []=true:=by kernel_rfl
theorem Al6:bl (fun b=>Dc (Ac8 (S5 b (!b)++diB)) .normal [(0, .atom 9),(1, .atom 1),(5, .atom 8)] [])=true:=by kernel_rfl
theorem A0f:Dc (Ac8 (S5 true true++diB)) .normal [(0, .atom 9),(1, .atom 1),(5, .atom 8)] []=true:=by kernel_rfl
theorem Azx:A0 (.atom 2) (Am PG (Aj An [.loop J9 2 [(0, .atom 0),(1, .atom 1),(5, .str [])] [] (.exit 0) [(5, .atom 2)] []]) 5 J9 [.atom 0, .atom 1] [])=true:=by kernel_rfl
theorem Auj {nu:Nat→PV} {x r:PV} {n:Int} (h1:subD nu x=nI n) (h2:subD nu r = .int .u8 n) (hn:0≤n∧n≤255) (h3:C9 nu r=true):Dz PG nu (.op (.conv Eh Ey) [x] r):=by
 refine ⟨?_,h3⟩
 show J1 PG Eh Ey (subD nu x)=some (subD nu r)
 rw [h1,h2]
 have e1:PG.underlying Ey=some (.int .u8):=by kernel_rfl
 have e2:PG.underlying Eh=some (.int .i64):=by kernel_rfl
 unfold J1
 rw [e1,e2]
 show some (PV.int .u8 (IntKind.u8.wrap n))=_
 rw [Go.IntWalk.u8_in n hn]
theorem Aq5 {nu:Nat→PV} {x r:PV} {c:UInt8} (h1:subD nu x=nB c) (h2:subD nu r = .str [c]) (h3:C9 nu r=true):Dz PG nu (.op (.conv Wh Ar) [.slice 1 [x]] r):=by
 refine ⟨?_,h3⟩
 show J1 PG Wh Ar (.slice 1 [subD nu x])=some (subD nu r)
 rw [h1,h2]
 have e1:PG.underlying Wh=some (.slice Ey):=by kernel_rfl
 have e2:PG.underlying Ar=some .string:=by kernel_rfl
 have e3:PG.underlying Ey=some (.int .u8):=by kernel_rfl
 unfold J1
 rw [e1,e2]
 simp only [e3]
 show (match bytesOf [.int .u8 (c.toNat:Int)] with|some l=>some (PV.str l)|none=>none)=_
 simp [bytesOf]
def N7 (m w:Nat) (acc:List UInt8):List PV:=[nI (-(m:Int)),nI w, .str acc,nI acc.length,nI (-((m % 10:Nat):Int)),nI ((48+m % 10:Nat):Int),nB (UInt8.ofNat (48+m % 10)), .str [UInt8.ofNat (48+m % 10)], .str (UInt8.ofNat (48+m % 10)::acc),nI (-((m / 10:Nat):Int))]
theorem O4:Eo 0 0=[]:=by unfold Eo;rfl
theorem Ju {m w:Nat} (h:¬ (m=0∧w=0)):Eo m w=Eo (m / 10) (w - 1)++[UInt8.ofNat (48+m % 10)]:=by
 conv=>lhs;unfold Eo
 rw [if_neg h]
theorem X3:∀ (j:Nat) {m w:Nat},m < 10 ^ j→w≤j→(Eo m w).length≤j
 | 0,m,w,h,hw=>by
  obtain rfl:m=0:=by simpa using h
  obtain rfl:w=0:=by omega
  rw [O4];simp
 | j+1,m,w,h,hw=>by
  by_cases hc:m=0∧w=0
  ·rw [hc.1,hc.2,O4];simp
  ·rw [Ju hc,List.length_append]
   have:=X3 j (m:=m / 10) (w:=w - 1) (by rw [Nat.pow_succ] at h;omega) (by omega)
   simp only [List.length_cons,List.length_nil]
   omega
set_option maxRecDepth 20000 in
theorem As8 (w:Nat):∀ (k m:Nat) (acc:List UInt8),(Eo m (w - acc.length)).length=k→m≤9223372036854775808→acc.length+k≤1000→w≤1000 →
  By PG (Fq PG J9) (Du PG J9 2) [(0,nI (-(m:Int))),(1,nI w),(5, .str acc)] [] (.exit 0) [(5, .str (Eo m (w - acc.length)++acc))] []:=by
 intro k
 induction k with
 | zero =>
  intro m acc hk hm ha hw
  have hc:m=0∧w - acc.length=0:=by
   by_cases hc:m=0∧w - acc.length=0
   ·exact hc
   ·rw [Ju hc] at hk;simp at hk
  obtain ⟨rfl,hw0⟩:=hc
  rw [hw0,O4]
  refine By.leave ?_ (fun h=>by cases h)
  exact Ci.chk (nu:=Ab (N7 0 w acc)) Af (Ap rfl) (T:=Vn) (s:=[]) (T':=[(5, .atom 2)]) (s':=[]) Ut A0k
   ⟨Av (c:=false) (a:=0) (b:=0) rfl rfl rfl rfl (by decide) rfl,C2 rfl rfl rfl,Av (c:=false) (a:=acc.length) (b:=w) rfl rfl rfl (by simp only [Aq];rw [decide_eq_false (by omega)]) (by decide) rfl,trivial⟩ rfl rfl rfl
 | succ k ih =>
  intro m acc hk hm ha hw
  have hc:¬ (m=0∧w - acc.length=0):=fun hc=>by rw [hc.1,hc.2,O4] at hk;simp at hk
  have hs:=Ju hc
  have hwa:w - (UInt8.ofNat (48+m % 10)::acc).length=w - acc.length - 1:=by rw [List.length_cons];omega
  have hr:=ih (m / 10) (UInt8.ofNat (48+m % 10)::acc) (by rw [hwa];rw [hs,List.length_append] at hk;simpa using hk) (by omega) (by rw [List.length_cons];omega) hw
  have e0:Eo (m / 10) (w - acc.length - 1)++UInt8.ofNat (48+m % 10)::acc=Eo m (w - acc.length)++acc:=by rw [hs];simp
  rw [hwa,e0] at hr
  have e1:(-(m:Int)).tmod 10 = -((m % 10:Nat):Int):=by rw [Int.neg_tmod,Int.tmod_eq_emod_of_nonneg (by omega)];omega
  have e2:IntKind.i64.wrap (48 - -((m % 10:Nat):Int))=((48+m % 10:Nat):Int):=by rw [Dn (by omega) (by omega)];omega
  have e3:(-(m:Int)).tdiv 10 = -((m / 10:Nat):Int):=by rw [Int.neg_tdiv,Int.tdiv_eq_ediv_of_nonneg (by omega)];omega
  have e4:IntKind.i64.wrap (-((m / 10:Nat):Int)) = -((m / 10:Nat):Int):=Dn (by omega) (by omega)
  have e5:(UInt8.ofNat (48+m % 10)).toNat=48+m % 10:=by simp only [UInt8.toNat_ofNat'];omega
  have hcv:PV.int .u8 ((48+m % 10:Nat):Int)=nB (UInt8.ofNat (48+m % 10)):=by show _=PV.int .u8 (((UInt8.ofNat (48+m % 10)).toNat:Nat):Int);rw [e5]
  have hB:Ah PG (Ab (N7 m w acc)) diB :=
   ⟨Bm (a:=-(m:Int)) (b:=10) rfl rfl rfl (by simp [Aq,e1]) (by decide) rfl,Bm (a:=48) (b:=-((m % 10:Nat):Int)) rfl rfl rfl (by simp only [Aq];rw [e2]) (by decide) rfl,Auj (n:=((48+m % 10:Nat):Int)) rfl hcv.symm (by omega) rfl,Aq5 rfl rfl rfl,
    Ax (l:=[UInt8.ofNat (48+m % 10)]) (m:=acc) rfl rfl (by simp;omega) rfl rfl,Bm (a:=-(m:Int)) (b:=10) rfl rfl rfl (by simp [Aq,e3];simpa using e4) (by decide) rfl,trivial⟩
  refine By.round ?_ hr
  by_cases hm0:m=0
  ·subst hm0
   have hA:Ah PG (Ab (N7 0 w acc)) (S5 false true):=⟨Av (c:=false) (a:=0) (b:=0) rfl rfl rfl rfl (by decide) rfl,C2 rfl rfl rfl,Av (c:=true) (a:=acc.length) (b:=w) rfl rfl rfl (by simp only [Aq];rw [decide_eq_true (by omega)]) (by decide) rfl,trivial⟩
   exact Ci.chk (nu:=Ab (N7 0 w acc)) Af (Ap rfl) (T:=Vn) (s:=[]) (T':=[(0, .atom 9),(1, .atom 1),(5, .atom 8)]) (s':=[]) Ut (Bo Al6 false) (Ah.append hA hB) rfl rfl rfl
  ·have hlt:decide (-(m:Int) < 0)=true:=decide_eq_true (by omega)
   by_cases hw1:acc.length < w
   ·have hA:Ah PG (Ab (N7 m w acc)) (S5 true true):=⟨Av (c:=true) (a:=-(m:Int)) (b:=0) rfl rfl rfl (by simp only [Aq];rw [hlt]) (by decide) rfl,C2 rfl rfl rfl,Av (c:=true) (a:=acc.length) (b:=w) rfl rfl rfl (by simp only [Aq];rw [decide_eq_true (by omega)]) (by decide) rfl,trivial⟩
    exact Ci.chk (nu:=Ab (N7 m w acc)) Af (Ap rfl) (T:=Vn) (s:=[]) (T':=[(0, .atom 9),(1, .atom 1),(5, .atom 8)]) (s':=[]) Ut A0f (Ah.append hA hB) rfl rfl rfl
   ·have hA:Ah PG (Ab (N7 m w acc)) (S5 true false):=⟨Av (c:=true) (a:=-(m:Int)) (b:=0) rfl rfl rfl (by simp only [Aq];rw [hlt]) (by decide) rfl,C2 rfl rfl rfl,Av (c:=false) (a:=acc.length) (b:=w) rfl rfl rfl (by simp only [Aq];rw [decide_eq_false (by omega)]) (by decide) rfl,trivial⟩
    exact Ci.chk (nu:=Ab (N7 m w acc)) Af (Ap rfl) (T:=Vn) (s:=[]) (T':=[(0, .atom 9),(1, .atom 1),(5, .atom 8)]) (s':=[]) Ut (Bo Al6 true) (Ah.append hA hB) rfl rfl rfl
theorem Apv {m w:Nat} (hm:m≤9223372036854775808) (hw:w≤100):Ev PG J9 [nI (-(m:Int)),nI w] (.str (Eo m w)):=by
 have hl:(Eo m w).length≤100:=X3 100 (Nat.lt_of_le_of_lt hm (by decide)) hw
 have h:=As8 w (Eo m w).length m [] rfl hm (by simp;omega) (by omega)
 rw [List.append_nil] at h
 exact Ev.facts (nu:=Ab [nI (-(m:Int)),nI w, .str (Eo m w)]) Af (Ap rfl) (As Azx) ⟨Ho Ut (Nat.le_refl _) h rfl,trivial⟩ rfl rfl
open Go Go.RowKit
def Br (n:Int):List UInt8:=if n≥0 then [] else [45]
def Eb (n:Int) (k:Nat):List UInt8:=Eo n.natAbs (k+1)
def A9 (n:Int) (k:Nat):List UInt8:=(Eb n k).take ((Eb n k).length - k)
def Fa (n:Int) (k:Nat):List UInt8:=(Eb n k).drop ((Eb n k).length - k)
def nuS:Bool→List Ao
 | true=>[oI .sub (nI 0) (.atom 0) (.atom 2), .prim J9 [.atom 2, .atom 3] (.atom 4)]
 | false=>[.prim J9 [.atom 0, .atom 3] (.atom 4)]
def Zh (b:Bool):List Ao:=nuS b++[oI .geq (.atom 0) (nI 0) (.bool b),oI .add (.atom 1) (nI 1) (.atom 3), .op (.len Ar) [.atom 4] (.atom 5),oI .sub (.atom 5) (.atom 1) (.atom 6),
 .op (.slice Ar false true) [.atom 4, .atom 6] (.atom 7), .op (.bin .add Ar) [.str (if b then [] else [45]), .atom 7] (.atom 8)]
def nuD (z:Bool):List Ao:=[oI .eql (.atom 1) (nI 0) (.bool z), .op (.bin .add Ar) [.atom 8, .str [46,48]] (.atom 9), .op (.bin .add Ar) [.atom 8, .str [46]] (.atom 10), .op (.slice Ar true false) [.atom 4, .atom 6] (.atom 11), .op (.bin .add Ar) [.atom 10, .atom 11] (.atom 12)]
theorem Awn:bl (fun b=>A0 (.atom 8) (Am PG (Aj An (Zh b)) 10 Qh [.agg [nI 2, .atom 0, .atom 1, .str []]] []))=true:=by kernel_rfl
theorem Alb:bl (fun b=>bl fun z=>A0 (if z then .atom 9 else .atom 12) (Am PG (Aj An (Zh b++nuD z)) 10 Qh [.agg [nI 3, .atom 0, .atom 1, .str []]] []))=true:=by kernel_rfl
theorem Av5:A0 (.atom 2) (Am PG (Aj An [.prim Qh [.agg [nI 2, .atom 0, .atom 1, .str []]] (.atom 2)]) 10 Eg [.agg [nI 2, .atom 0, .atom 1, .str []]] [])=true:=by kernel_rfl
theorem Axa:A0 (.atom 2) (Am PG (Aj An [.prim Qh [.agg [nI 3, .atom 0, .atom 1, .str []]] (.atom 2)]) 10 Eg [.agg [nI 3, .atom 0, .atom 1, .str []]] [])=true:=by kernel_rfl
def Rz (n:Int) (k:Nat):List PV :=
 [nI n,nI k,nI (-n),nI (k+1:Nat), .str (Eb n k),nI (Eb n k).length,nI ((Eb n k).length - k:Nat), .str (A9 n k), .str (Br n++A9 n k), .str (Br n++A9 n k++[46,48]), .str (Br n++A9 n k++[46]), .str (Fa n k), .str (Br n++A9 n k++[46]++Fa n k)]
theorem Acx:∀ (w m:Nat),w≤(Eo m w).length
 | 0,m=>Nat.zero_le _
 | w+1,m=>by
  rw [Ju (by omega),List.length_append]
  have:=Acx w (m / 10)
  simp only [List.length_cons,List.length_nil,Nat.add_sub_cancel]
  omega
section
variable {n:Int} {k:Nat}
theorem Jv (hn : -9223372036854775808≤n∧n≤9223372036854775807) (hk:k≤6):k+1≤(Eb n k).length∧(Eb n k).length≤100 :=
 ⟨Acx _ _,X3 100 (Nat.lt_of_le_of_lt (show n.natAbs≤9223372036854775808 by omega) (by decide)) (by omega)⟩
theorem Ajx (hn : -9223372036854775808≤n∧n≤9223372036854775807) (hk:k≤6) (b:Bool) (hb:decide (n≥0)=b):Ah PG (Ab (Rz n k)) (Zh b):=by
 obtain ⟨h1,h2⟩:=Jv hn hk
 have hD:=Apv (m:=n.natAbs) (w:=k+1) (by omega) (by omega)
 have e3:IntKind.i64.wrap ((k:Int)+1)=((k+1:Nat):Int):=by rw [Dn (by omega) (by omega)];omega
 have e6:IntKind.i64.wrap (((Eb n k).length:Int) - (k:Int))=(((Eb n k).length - k:Nat):Int):=by rw [Dn (by omega) (by omega)];omega
 have hwl:(A9 n k).length≤100:=by unfold A9;rw [List.length_take];omega
 have hsg:Br n=if b then [] else [45]:=by
  unfold Br
  cases b with
  | true=>rw [if_pos (by simpa using hb)];rfl
  | false=>rw [if_neg (by simpa using hb)];rfl
 have hDig:Ah PG (Ab (Rz n k)) (nuS b):=by
  cases b with
  | true =>
   have h0:n≥0:=by simpa using hb
   rw [show (-(n.natAbs:Int)) = -n by omega] at hD
   have e2:IntKind.i64.wrap (0 - n) = -n:=by rw [Dn (by omega) (by omega)];omega
   exact ⟨Bm (a:=0) (b:=n) rfl rfl rfl (by simp only [Aq];rw [e2]) (by decide) rfl,Ai hD rfl rfl rfl,trivial⟩
  | false =>
   have h0:¬ n≥0:=by simpa using hb
   rw [show (-(n.natAbs:Int))=n by omega] at hD
   exact ⟨Ai hD rfl rfl rfl,trivial⟩
 exact Ah.append hDig ⟨Av (a:=n) (b:=0) (c:=b) rfl rfl rfl (by simp only [Aq];rw [hb]) (by decide) rfl,Bm (a:=k) (b:=1) rfl rfl rfl (by simp only [Aq];rw [e3]) (by decide) rfl,C2 rfl rfl rfl,Bm (a:=(Eb n k).length) (b:=k) rfl rfl rfl (by simp only [Aq];rw [e6]) (by decide) rfl,
  Ug rfl rfl (by omega) rfl rfl rfl,Ax (l:=if b then [] else [45]) (m:=A9 n k) rfl rfl (by cases b<;>simp<;>omega) (by rw [← hsg];rfl) rfl,trivial⟩
theorem Ann (hn : -9223372036854775808≤n∧n≤9223372036854775807):Ev PG Qh [vP (2,n,0,[])] (.str (Br n++A9 n 0)) :=
 Ev.facts (nu:=Ab (Rz n 0)) (args:=[.agg [nI 2, .atom 0, .atom 1, .str []]]) Af (Ap rfl) (As (Bo Awn (decide (n≥0)))) (Ajx hn (by decide) _ rfl) rfl rfl
def Dm (n:Int) (k:Nat):List UInt8:=if k=0 then [48] else Fa n k
theorem numeral_dec (hn : -1000000000000000 < n∧n < 1000000000000000) (hk:k≤6):Ev PG Qh [vP (3,n,k,[])] (.str (Br n++A9 n k++46::Dm n k)):=by
 obtain ⟨h1,h2⟩:=Jv (n:=n) (k:=k) (by omega) hk
 have hwl:(A9 n k).length≤100:=by unfold A9;rw [List.length_take];omega
 have hsl:(Br n).length≤1:=by unfold Br;split<;>simp
 have hpl:(Fa n k).length≤100:=by unfold Fa;rw [List.length_drop];omega
 have hf:∀ z,((k:Int)==0)=z→Ah PG (Ab (Rz n k)) (Zh (decide (n≥0))++nuD z):=fun z hz =>
  Ah.append (Ajx (by omega) hk _ rfl) ⟨Av (c:=z) rfl rfl rfl (by rw [Hu,hz]) (by decide) rfl,Ax (l:=Br n++A9 n k) (m:=[46,48]) rfl rfl (by simp;omega) rfl rfl,Ax (l:=Br n++A9 n k) (m:=[46]) rfl rfl (by simp;omega) rfl rfl,Uj rfl rfl (by omega) rfl rfl rfl,
   Ax (l:=Br n++A9 n k++[46]) (m:=Fa n k) rfl rfl (by simp;omega) rfl rfl,trivial⟩
 by_cases hz:k=0
 ·have hz':((k:Int)==0)=true:=by rw [beq_iff_eq];omega
  have:=Ev.facts (nu:=Ab (Rz n k)) (args:=[.agg [nI 3, .atom 0, .atom 1, .str []]]) Af (Ap rfl) (As (Bo (Bo Alb (decide (n≥0))) true)) (hf true hz') rfl rfl
  unfold Dm
  rw [if_pos hz]
  have e:Br n++A9 n k++46::[48]=Br n++A9 n k++[46,48]:=by simp
  rw [e]
  exact this
 ·have hz':((k:Int)==0)=false:=by rw [beq_eq_false_iff_ne];omega
  have:=Ev.facts (nu:=Ab (Rz n k)) (args:=[.agg [nI 3, .atom 0, .atom 1, .str []]]) Af (Ap rfl) (As (Bo (Bo Alb (decide (n≥0))) false)) (hf false hz') rfl rfl
  unfold Dm
  rw [if_neg hz]
  have e:Br n++A9 n k++46::Fa n k=Br n++A9 n k++[46]++Fa n k:=by simp
  rw [e]
  exact this
theorem Aho (hn : -9223372036854775808≤n∧n≤9223372036854775807):Ev PG Eg [vP (2,n,0,[])] (.str (Br n++A9 n 0)) :=
 Ev.facts (nu:=Ab [nI n,nI 0, .str (Br n++A9 n 0)]) (args:=[.agg [nI 2, .atom 0, .atom 1, .str []]]) Af (Ap rfl) (As Av5) ⟨Ai (Ann hn) rfl rfl rfl,trivial⟩ rfl rfl
theorem Are (hn : -1000000000000000 < n∧n < 1000000000000000) (hk:k≤6):Ev PG Eg [vP (3,n,k,[])] (.str (Br n++A9 n k++46::Dm n k)) :=
 Ev.facts (nu:=Ab [nI n,nI k, .str (Br n++A9 n k++46::Dm n k)]) (args:=[.agg [nI 3, .atom 0, .atom 1, .str []]]) Af (Ap rfl) (As Axa) ⟨Ai (numeral_dec hn hk) rfl rfl rfl,trivial⟩ rfl rfl
end
open Go Go.RowKit
def Dy (a:Nat):List UInt8:=List.replicate a 48
theorem Ahe (a:Nat):(Dy a).all isDigit=true:=by
 unfold Dy
 rw [List.all_replicate]
 by_cases h:a=0<;>simp [h]<;>decide
theorem Aqp (a b:List UInt8) (n:Int):Ej (a++b) n=Ej b (Ej a n):=List.foldl_append
theorem Ab9:∀ (j:Nat) {m w:Nat},m < 10 ^ j→w≤j→Ej (Eo m w) 0 = -(m:Int)∧(Eo m w).all isDigit=true
 | 0,m,w,h,hw=>by
  obtain rfl:m=0:=by simpa using h
  obtain rfl:w=0:=by omega
  rw [O4];exact ⟨rfl,rfl⟩
 | j+1,m,w,h,hw=>by
  by_cases hc:m=0∧w=0
  ·rw [hc.1,hc.2,O4];exact ⟨rfl,rfl⟩
  ·rw [Ju hc,Aqp,List.all_append]
   obtain ⟨h1,h2⟩:=Ab9 j (m:=m / 10) (w:=w - 1) (by rw [Nat.pow_succ] at h;omega) (by omega)
   have e5:(UInt8.ofNat (48+m % 10)).toNat=48+m % 10:=by simp only [UInt8.toNat_ofNat'];omega
   rw [h1,h2]
   refine ⟨?_,?_⟩
   ·show 10*-((m / 10:Nat):Int) - (((UInt8.ofNat (48+m % 10)).toNat:Int) - 48)=_
    rw [e5];omega
   ·simp only [List.all_cons,List.all_nil,isDigit,e5,Bool.and_true,Bool.true_and,Bool.and_eq_true,decide_eq_true_eq]
    omega
theorem Aas:∀ (l:List UInt8),Ej (Cc l) 0=Ej l 0
 | []=>rfl
 | c::l=>by
  unfold Cc
  rw [List.dropWhile_cons]
  split
  ·rename_i hc
   rw [beq_iff_eq] at hc
   subst hc
   have:=Aas l
   unfold Cc at this
   rw [this];rfl
  ·rfl
theorem Ahb (a:Nat) (l:List UInt8):Cc (Dy a++l)=Cc l:=by
 induction a with
 | zero=>rfl
 | succ a ih =>
  show Cc (48::(Dy a++l))=_
  unfold Cc at ih ⊢
  rw [List.dropWhile_cons,if_pos (by decide)]
  exact ih
theorem Aoz (p:List UInt8) (b:Nat):Dw (p++Dy b)=Dw p:=by
 unfold Dw
 rw [List.reverse_append,show (Dy b).reverse=Dy b by simp [Dy],Ahb]
theorem Aoi (q:List UInt8) {c:UInt8} (h:c≠48):Dw (q++[c])=q++[c]:=by
 unfold Dw Cc
 rw [List.reverse_append,List.reverse_cons,List.reverse_nil,List.nil_append,List.singleton_append,List.dropWhile_cons,if_neg (by simpa using h),List.reverse_cons,List.reverse_reverse]
section
variable {n:Int} {k:Nat}
theorem Akx (n:Int) (k:Nat):A9 n k++Fa n k=Eb n k:=List.take_append_drop _ _
theorem Aca (hn : -9223372036854775808≤n∧n≤9223372036854775807) (hk:k≤6):Ej (Eb n k) 0 = -(n.natAbs:Int)∧(Eb n k).all isDigit=true :=
 Ab9 100 (Nat.lt_of_le_of_lt (show n.natAbs≤9223372036854775808 by omega) (by decide)) (by omega)
theorem O2 (hn : -9223372036854775808≤n∧n≤9223372036854775807) (hk:k≤6):(A9 n k).all isDigit=true∧(Fa n k).all isDigit=true:=by
 have:=(Aca hn hk).2
 rw [← Akx,List.all_append,Bool.and_eq_true] at this
 exact this
theorem Aqn (hk:1≤k) (hm:n.natAbs % 10≠0):∃ q c,Fa n k=q++[c]∧c≠48:=by
 have h1:Eb n k=Eo (n.natAbs / 10) k++[UInt8.ofNat (48+n.natAbs % 10)]:=Ju (by omega)
 refine ⟨(Eo (n.natAbs / 10) k).drop ((Eb n k).length - k),UInt8.ofNat (48+n.natAbs % 10),?_,fun e=>?_⟩
 ·unfold Fa
  conv=>lhs;rw [h1]
  rw [List.drop_append_of_le_length]
  ·rw [h1]
  ·rw [List.length_append];simp;omega
 ·have:=congrArg UInt8.toNat e
  simp only [UInt8.toNat_ofNat'] at this
  have e48:(48:UInt8).toNat=48:=rfl
  omega
theorem Qs (hn : -9223372036854775808≤n∧n≤9223372036854775807) (hk:k≤6):(Fa n k).length=k:=by
 have:=(Jv hn hk).1
 unfold Fa
 rw [List.length_drop];omega
theorem Ahd (a b:Nat) (bl:Bool) (ha:a≤1000) (hb:b≤1000) (hn : -1000000000000000 < n∧n < 1000000000000000) (hk:k≤6) (hm:k=0∨n.natAbs % 10≠0) :
  Ev PG Ge [.str ((Dy a++A9 n k)++46::(Dm n k++Dy b)), .bool bl] (.tup [vP (3,I4 bl (-(n.natAbs:Int)),k,[]), .bool true]):=by
 have hn' : -9223372036854775808≤n∧n≤9223372036854775807:=by omega
 obtain ⟨hd1,hd2⟩:=O2 hn' hk
 obtain ⟨hnum,_⟩:=Aca hn' hk
 have hl:=(Jv hn' hk).2
 have hwl:(A9 n k).length≤100:=by unfold A9;rw [List.length_take];omega
 have hpt:(Dm n k).all isDigit=true:=by
  unfold Dm
  split
  ·rfl
  ·exact hd2
 have hptl:(Dm n k).length≤100:=by
  unfold Dm
  split
  ·simp
  ·rw [Qs hn' hk];omega
 have htr:Dw (Dm n k++Dy b)=Fa n k:=by
  rw [Aoz]
  unfold Dm
  by_cases h0:k=0
  ·rw [if_pos h0]
   have:Fa n k=[]:=List.length_eq_zero_iff.1 (by rw [Qs hn' hk];exact h0)
   rw [this];decide
  ·rw [if_neg h0]
   obtain ⟨q,c,e,hc⟩:=Aqn (n:=n) (k:=k) (by omega) (hm.resolve_left h0)
   rw [e];exact Aoi q hc
 have hval:Ej (Cc ((Dy a++A9 n k)++Dw (Dm n k++Dy b))) 0 = -(n.natAbs:Int):=by
  rw [htr,List.append_assoc,Akx,Ahb,Aas,hnum]
 have:=Ap4 (s:=(Dy a++A9 n k)++46::(Dm n k++Dy b)) (w:=Dy a++A9 n k) (p:=Dm n k++Dy b) bl (by simp [Dy];omega) rfl (by rw [List.all_append,Ahe,hd1];rfl) (by rw [List.all_append,Ahe,hpt];rfl) hval (by omega) (by
  rw [htr,Qs hn' hk]
  rcases hm with h|h
  ·exact .inr ⟨by omega, .inl h⟩
  ·refine .inr ⟨hk, .inr ?_⟩
   rw [Int.neg_tmod,Int.tmod_eq_emod_of_nonneg (by omega)]
   omega)
 rw [htr,Qs hn' hk] at this
 have e:(if -(n.natAbs:Int)=0 then (0:Int) else ((k:Nat):Int))=k:=by
  split
  ·rcases hm with h|h<;>omega
  ·rfl
 rw [e] at this
 exact this
end
open Go Go.RowKit
open Go Go.RowKit
theorem Ah6:∀ w:Nat,Eo 0 w=Dy w
 | 0=>O4
 | w+1=>by
  rw [Ju (by omega),show (0:Nat) / 10=0 from rfl,Nat.add_sub_cancel,Ah6 w]
  unfold Dy
  rw [List.replicate_succ'];rfl
theorem Ata {m:Nat} (h:0 < m):Eo m 0=Eo m 1:=by
 rw [Ju (by omega),Ju (m:=m) (w:=1) (by omega)]
theorem Ajj (m:Nat):∀ w:Nat,1≤w→Eo m w=Dy (w - (Lib.decDigits m).length)++Lib.decDigits m:=by
 induction m using Lib.decDigits.induct with
 | case1 m h =>
  intro w hw
  have e:m / 10=0:=Nat.div_eq_of_lt h
  rw [Ju (by omega),e,Ah6,Lib.decDigits_one h,Nat.mod_eq_of_lt h]
  rfl
 | case2 m h ih =>
  intro w hw
  rw [Lib.decDigits,dif_neg h,Ju (by omega)]
  by_cases h1:w=1
  ·subst h1
   have hm:0 < m / 10:=by omega
   have hl:1≤(Lib.decDigits (m / 10)).length:=by
    rw [Lib.decDigits_length]
    unfold Lib.nDigits
    split<;>omega
   have:=ih 1 (Nat.le_refl 1)
   rw [show 1 - 1=0 from rfl,Ata hm,this]
   rw [List.length_append,show 1 - (Lib.decDigits (m / 10)).length=0 by omega,show 1 - ((Lib.decDigits (m / 10)).length+[UInt8.ofNat (48+m % 10)].length)=0 by simp]
   simp
  ·have:=ih (w - 1) (by omega)
   rw [this,List.length_append,List.length_singleton,show w - 1 - (Lib.decDigits (m / 10)).length=w - ((Lib.decDigits (m / 10)).length+1) by omega,List.append_assoc]
theorem Xr (m:Nat):Lib.decDigits m=Eo m 1:=by
 have h:=Ajj m 1 (Nat.le_refl 1)
 have hl:1≤(Lib.decDigits m).length:=by
  rw [Lib.decDigits_length]
  unfold Lib.nDigits
  split<;>omega
 rw [h,show 1 - (Lib.decDigits m).length=0 by omega]
 rfl
theorem Ah2 (n:Int):Lib.itoa n=Br n++Lib.decDigits n.natAbs:=by
 unfold Lib.itoa Br
 by_cases h:n < 0
 ·rw [if_pos h,if_neg (by omega)];rfl
 ·rw [if_neg h,if_pos (by omega),show n.toNat=n.natAbs by omega];rfl
theorem Ara (n:Int):Lib.itoa n=Br n++A9 n 0:=by
 rw [Ah2,Xr]
 unfold A9 Eb
 rw [Nat.sub_zero,List.take_length]
theorem Aw7:A0 (.atom 1) (Am PG (Aj An [.prim V6 [.atom 0] (.atom 1)]) 10 G2 [.agg [nI 2, .atom 0,nI 0, .str []]] [])=true:=by kernel_rfl
theorem Aii {n:Int} (hn : -9223372036854775808≤n∧n≤9223372036854775807):Ev PG G2 [vP (2,n,0,[])] (.str (Br n++A9 n 0)):=by
 have h:=Acm n hn
 rw [Ara] at h
 exact Ev.facts (nu:=Ab [nI n, .str (Br n++A9 n 0)]) (args:=[.agg [nI 2, .atom 0,nI 0, .str []]]) Af (Ap rfl) (As Aw7) ⟨Ai h rfl rfl rfl,trivial⟩ rfl rfl
open Go Go.RowKit
def tpF (b:Bool):List Ao:=[.op (.len Ar) [.atom 0] (.atom 1),oI .geq (.atom 1) (nI 1) (.bool true), .op (.slice Ar false true) [.atom 0,nI 1] (.atom 2), .op (.bin .eql Ar) [.atom 2, .str [45]] (.bool b), .op (.slice Ar true false) [.atom 0,nI 1] (.atom 3)]
theorem Ama:bl (fun b=>A0 (if b then .atom 3 else .atom 0) (Am PG (Aj An (tpF b)) 10 Zo [.atom 0, .str [45]] []))=true:=by kernel_rfl
theorem Ae3 {c:UInt8} {s:List UInt8}:Ev PG Zo [.str (c::s), .str [45]] (.str (if c==45 then s else c::s)):=by
 have hf:∀ b,(c==45)=b→Ah PG (Ab [.str (c::s),nI (c::s).length, .str [c], .str s]) (tpF b):=fun b hb =>
  ⟨C2 rfl rfl rfl,Av (a:=(c::s).length) (b:=1) (c:=true) rfl rfl rfl (by simp only [Aq];rw [decide_eq_true (by rw [List.length_cons];omega)]) (by decide) rfl,Ug (s:=c::s) (j:=1) rfl rfl (by rw [List.length_cons];omega) rfl rfl rfl,Hr (l:=[c]) (m:=[45]) rfl rfl (Jb _ _) (by show PV.bool b = .bool ([c]==[45]);rw [← hb];simp) rfl,
   Uj (s:=c::s) (i:=1) rfl rfl (by rw [List.length_cons];omega) rfl rfl rfl,trivial⟩
 cases hb:(c==45) with
 | true=>exact Ev.facts (args:=[.atom 0, .str [45]]) Af (Ap rfl) (As (Bo Ama true)) (hf true hb) rfl rfl
 | false=>exact Ev.facts (args:=[.atom 0, .str [45]]) Af (Ap rfl) (As (Bo Ama false)) (hf false hb) rfl rfl
theorem Ayb:((List.range 7).all fun c=>A0 (.str (Dy c)) (Am PG I3 40 Zp [.str [48],nI (c:Nat)] []))=true:=by kernel_rfl
theorem Apk {c:Nat} (h:c≤6):Ev PG Zp [.str [48],nI c] (.str (Dy c)) :=
 Ev.ofD (nu:=Ab []) (args:=[.str [48],nI c]) Af (Ap rfl) (Um PG _) (As (List.all_eq_true.1 Ayb c (by rw [List.mem_range];omega))) (fun p hp=>by simp at hp;rcases hp with rfl|rfl<;>exact ⟨rfl,rfl⟩) rfl rfl
def Zl (b:Bool):List Ao:=[.prim V6 [.atom 0] (.atom 1), .prim Td [.atom 1, .str [45]] (.bool b), .prim Zo [.atom 1, .str [45]] (.atom 2)]
def dc0:List Ao:=[.op (.bin .add Ar) [.atom 2, .str [46,48]] (.atom 3)]
def dcK (k L:Nat):List Ao:=[.op (.len Ar) [.atom 2] (nI L), .prim Zp [.str [48],nI (k+1 - L:Nat)] (.str (Dy (k+1 - L))), .op (.bin .add Ar) [.str (Dy (k+1 - L)), .atom 2] (.atom 4), .op (.len Ar) [.atom 4] (nI (k+1 - L+L:Nat)),
 .op (.slice Ar false true) [.atom 4,nI (k+1 - L+L - k:Nat)] (.atom 5), .op (.bin .add Ar) [.atom 5, .str [46]] (.atom 6), .op (.slice Ar true false) [.atom 4,nI (k+1 - L+L - k:Nat)] (.atom 7), .op (.bin .add Ar) [.atom 6, .atom 7] (.atom 3)]
def Zc:List Ao:=[.op (.bin .add Ar) [.str [45], .atom 3] (.atom 9)]
theorem Av2:bl (fun b=>A0 (if b then .atom 9 else .atom 3) (Am PG (Aj An (Zl b++(dc0++Zc))) 10 Qg [.agg [nI 3, .atom 0,nI 0, .str []]] []))=true:=by kernel_rfl
theorem Awz:bl (fun b=>(List.range 6).all fun k=>(List.range 16).all fun L=>A0 (if b then .atom 9 else .atom 3) (Am PG (Aj An (Zl b++(dcK (k+1) (L+1)++Zc))) 10 Qg [.agg [nI 3, .atom 0,nI (k+1:Nat), .str []]] []))=true:=by kernel_rfl
theorem Axs:A0 (.atom 2) (Am PG (Aj An [.prim Qg [.agg [nI 3, .atom 0, .atom 1, .str []]] (.atom 2)]) 10 G2 [.agg [nI 3, .atom 0, .atom 1, .str []]] [])=true:=by kernel_rfl
section
variable {n:Int} {k:Nat}
theorem Aiz (hn : -1000000000000000 < n∧n < 1000000000000000):1≤(Lib.decDigits n.natAbs).length∧(Lib.decDigits n.natAbs).length≤15:=by
 rw [Xr]
 exact ⟨Acx _ _,X3 15 (by omega) (by decide)⟩
theorem Apb (hn : -1000000000000000 < n∧n < 1000000000000000):(Lib.decDigits n.natAbs).all isDigit=true:=by
 rw [Xr]
 exact (Ab9 15 (by omega) (by decide)).2
def P5 (n:Int) (x s2 w p:List UInt8):List PV:=[nI n, .str (Br n++Lib.decDigits n.natAbs), .str (Lib.decDigits n.natAbs), .str x, .str s2, .str w, .str (w++[46]), .str p,nI 0, .str ([45]++x)]
theorem Avi (hn : -1000000000000000 < n∧n < 1000000000000000) (x s2 w p:List UInt8):Ah PG (Ab (P5 n x s2 w p)) (Zl (decide (n < 0))):=by
 have h1:=Acm n (by omega)
 rw [Ah2] at h1
 have h2:=Afa (Br n++Lib.decDigits n.natAbs) [45]
 obtain ⟨c,w',hw⟩:∃ c w',Lib.decDigits n.natAbs=c::w':=by
  have:=(Aiz hn).1
  cases hw:Lib.decDigits n.natAbs with
  | nil=>rw [hw] at this;simp at this
  | cons c w'=>exact ⟨c,w',rfl⟩
 have hd:=Apb hn
 have hc:(c==45)=false:=by
  rw [hw,List.all_cons,Bool.and_eq_true] at hd
  exact beq_eq_false_iff_ne.2 fun e=>by subst e;exact absurd hd.1 (by decide)
 by_cases h0:n < 0
 ·have hs:Br n=[45]:=if_neg (by omega)
  have h3:=Ae3 (c:=45) (s:=Lib.decDigits n.natAbs)
  rw [decide_eq_true h0]
  rw [hs] at h1 h2
  have e:([45]:List UInt8).isPrefixOf ([45]++Lib.decDigits n.natAbs)=true:=by simp [List.isPrefixOf]
  rw [e] at h2
  unfold P5
  rw [hs]
  exact ⟨Ai h1 rfl rfl rfl,Ai h2 rfl rfl rfl,Ai h3 rfl rfl rfl,trivial⟩
 ·have hs:Br n=[]:=if_pos (by omega)
  have h3:=Ae3 (c:=c) (s:=w')
  rw [hc,← hw] at h3
  rw [decide_eq_false h0]
  rw [hs] at h1 h2
  have e:([45]:List UInt8).isPrefixOf ([]++Lib.decDigits n.natAbs)=false:=by
   rw [List.nil_append,hw]
   simp only [List.isPrefixOf,Bool.and_true]
   exact beq_eq_false_iff_ne.2 fun e=>by subst e;cases hc
  rw [e] at h2
  unfold P5
  rw [hs]
  exact ⟨Ai h1 rfl rfl rfl,Ai h2 rfl rfl rfl,Ai h3 rfl rfl rfl,trivial⟩
theorem Aj2 (x s2 w p:List UInt8) (hx:x.length≤1000):Ah PG (Ab (P5 n x s2 w p)) Zc:=⟨Ax (l:=[45]) (m:=x) rfl rfl (by simp;omega) rfl rfl,trivial⟩
theorem Aoa (hn : -1000000000000000 < n∧n < 1000000000000000) (hk:k≤6):Ev PG Qg [vP (3,n,k,[])] (.str (Br n++A9 n k++46::Dm n k)):=by
 have hn' : -9223372036854775808≤n∧n≤9223372036854775807:=by omega
 obtain ⟨hl1,hl15⟩:=Aiz hn
 obtain ⟨hg1,hg2⟩:=Jv hn' hk
 have hwl:(A9 n k).length≤100:=by unfold A9;rw [List.length_take];omega
 have hpl:(Fa n k).length≤100:=by unfold Fa;rw [List.length_drop];omega
 have hfin:∀ (x s2 w p:List UInt8) (r:PV) (fs:List Ao) (b:Bool),decide (n < 0)=b→A0 (if b then .atom 9 else .atom 3) (Am PG (Aj An (Zl b++(fs++Zc))) 10 Qg [.agg [nI 3, .atom 0,nI k, .str []]] [])=true→x.length≤1000→Ah PG (Ab (P5 n x s2 w p)) fs→x=A9 n k++46::Dm n k →
   Ev PG Qg [vP (3,n,k,[])] (.str (Br n++A9 n k++46::Dm n k)):=fun x s2 w p r fs b hb hkk hx hfs hxe=>by
  have hA:=Avi hn x s2 w p
  rw [hb] at hA
  rw [List.append_assoc,← hxe]
  cases b with
  | true =>
   rw [show Br n=[45] from if_neg (by have:=of_decide_eq_true hb;omega)]
   exact Ev.facts (nu:=Ab (P5 n x s2 w p)) (args:=[.agg [nI 3, .atom 0,nI k, .str []]]) Af (Ap rfl) (As hkk) (Ah.append hA (Ah.append hfs (Aj2 x s2 w p hx))) rfl rfl
  | false =>
   rw [show Br n=[] from if_pos (by have:=of_decide_eq_false hb;omega)]
   exact Ev.facts (nu:=Ab (P5 n x s2 w p)) (args:=[.agg [nI 3, .atom 0,nI k, .str []]]) Af (Ap rfl) (As hkk) (Ah.append hA (Ah.append hfs (Aj2 x s2 w p hx))) rfl rfl
 by_cases h0:k=0
 ·subst h0
  have hw:A9 n 0=Lib.decDigits n.natAbs:=by
   rw [Xr];unfold A9 Eb
   rw [Nat.sub_zero,List.take_length]
  refine hfin (Lib.decDigits n.natAbs++[46,48]) [] [] [] .nilptr dc0 _ rfl (Bo Av2 _) (by simp;omega) ⟨Ax (l:=Lib.decDigits n.natAbs) (m:=[46,48]) rfl rfl (by simp;omega) rfl rfl,trivial⟩ (by rw [hw];rfl)
 ·obtain ⟨k,rfl⟩:∃ j,k=j+1:=⟨k - 1,by omega⟩
  obtain ⟨L,hL⟩:∃ j,(Lib.decDigits n.natAbs).length=j+1:=⟨(Lib.decDigits n.natAbs).length - 1,by omega⟩
  have hs2:Eb n (k+1)=Dy (k+1+1 - (L+1))++Lib.decDigits n.natAbs:=by
   rw [← hL];exact Ajj _ _ (by omega)
  have hlen:(Eb n (k+1)).length=k+1+1 - (L+1)+(L+1):=by rw [hs2,List.length_append,hL];simp [Dy]
  have hkk:=List.all_eq_true.1 (List.all_eq_true.1 (Bo Awz (decide (n < 0))) k (by rw [List.mem_range];omega)) L (by rw [List.mem_range];omega)
  refine hfin (A9 n (k+1)++[46]++Fa n (k+1)) (Eb n (k+1)) (A9 n (k+1)) (Fa n (k+1)) .nilptr (dcK (k+1) (L+1)) _ rfl hkk (by simp;omega) ?_ (by unfold Dm;rw [if_neg (by omega)];simp)
  have hw:(Eb n (k+1)).take (k+1+1 - (L+1)+(L+1) - (k+1))=A9 n (k+1):=by unfold A9;rw [hlen]
  have hp:(Eb n (k+1)).drop (k+1+1 - (L+1)+(L+1) - (k+1))=Fa n (k+1):=by unfold Fa;rw [hlen]
  exact ⟨Ahy (n:=((L+1:Nat):Int)) rfl (by rw [hL]) rfl rfl,Ai (Apk (by omega)) rfl rfl rfl,Ax (l:=Dy (k+1+1 - (L+1))) (m:=Lib.decDigits n.natAbs) rfl rfl (by simp [Dy];omega) (by rw [← hs2];rfl) rfl,Ahy (s:=Eb n (k+1)) (n:=((k+1+1 - (L+1)+(L+1):Nat):Int)) rfl (by rw [hlen]) rfl rfl,
   Ug (s:=Eb n (k+1)) rfl rfl (by omega) hw rfl rfl,Ax (l:=A9 n (k+1)) (m:=[46]) rfl rfl (by simp;omega) rfl rfl,Uj (s:=Eb n (k+1)) rfl rfl (by omega) hp rfl rfl,Ax (l:=A9 n (k+1)++[46]) (m:=Fa n (k+1)) rfl rfl (by simp;omega) rfl rfl,trivial⟩
theorem Arh (hn : -1000000000000000 < n∧n < 1000000000000000) (hk:k≤6):Ev PG G2 [vP (3,n,k,[])] (.str (Br n++A9 n k++46::Dm n k)) :=
 Ev.facts (nu:=Ab [nI n,nI k, .str (Br n++A9 n k++46::Dm n k)]) (args:=[.agg [nI 3, .atom 0, .atom 1, .str []]]) Af (Ap rfl) (As Axs) ⟨Ai (Aoa hn hk) rfl rfl rfl,trivial⟩ rfl rfl
end
open Go Go.RowKit
theorem Agh (c:UInt8):∀ {w:List UInt8},c ∉ w→Lib.index w [c] = -1
 | [],_=>rfl
 | d::l,h=>by
  simp only [List.mem_cons,not_or] at h
  have hc:([c]:List UInt8).isPrefixOf (d::l)=false:=by
   simp only [List.isPrefixOf,Bool.and_true,beq_eq_false_iff_ne]
   exact h.1
  unfold Lib.index
  rw [hc,Agh c h.2]
  rfl
theorem Afz (c:UInt8):∀ {w:List UInt8} (p:List UInt8),c ∉ w→Lib.index (w++c::p) [c]=w.length
 | [],p,_=>by
  show Lib.index (c::p) [c]=0
  unfold Lib.index
  simp [List.isPrefixOf]
 | d::l,p,h=>by
  simp only [List.mem_cons,not_or] at h
  have hc:([c]:List UInt8).isPrefixOf (d::(l++c::p))=false:=by
   simp only [List.isPrefixOf,Bool.and_true,beq_eq_false_iff_ne]
   exact h.1
  show Lib.index (d::(l++c::p)) [c]=_
  unfold Lib.index
  rw [hc,Afz c p h.2]
  have:((l.length:Int)==-1)=false:=by rw [beq_eq_false_iff_ne];omega
  simp [this]
theorem Acn:∀ (a b:List UInt8),Bv (a++b)=Bv a++Bv b
 | [],b=>rfl
 | c::a,b=>by
  by_cases h:c=39
  ·subst h
   show Bv (39::(a++b))=_
   rw [Py,Py,Acn a b];rfl
  ·show Bv (c::(a++b))=_
   rw [N5 h,N5 h,Acn a b];rfl
theorem Abw:∀ {w:List UInt8},(39:UInt8) ∉ w→Bv w=w
 | [],_=>rfl
 | c::w,h=>by
  simp only [List.mem_cons,not_or] at h
  rw [N5 (fun e=>h.1 e.symm),Abw h.2]
theorem Z4:∀ (k:Nat) (s:List UInt8),s.length≤k→Lib.replaceK [39] [39,39] (Lib.count s [39]) s=Bv s∧Lib.count s [39]≤s.length
 | 0,s,h=>by
  obtain rfl:s=[]:=List.length_eq_zero_iff.1 (by omega)
  exact ⟨by rw [Lib.count_miss rfl];rfl,by rw [Lib.count_miss rfl];simp⟩
 | k+1,s,h=>by
  by_cases hm:(39:UInt8)∈s
  ·obtain ⟨w,r,hs,hw⟩:=List.eq_append_cons_of_mem hm
   have hi:=Afz 39 r hw
   have hl:s.length=w.length+(r.length+1):=by rw [hs];simp
   have hd:s.drop (w.length+([39]:List UInt8).length)=r:=by rw [hs];simp
   have ht:s.take w.length=w:=by rw [hs];simp
   rw [← hs] at hi
   obtain ⟨h1,h2⟩:=Z4 k r (by omega)
   have hc:=Lib.count_hit (s:=s) (sub:=[39]) (by simp) hi
   rw [hd] at hc
   refine ⟨?_,by omega⟩
   rw [hc,Nat.add_comm,Lib.replaceK_hit _ _ _ _ _ hi,hd,ht,h1,hs,Acn,Abw hw,Py]
   simp
  ·have hi:=Agh 39 hm
   rw [Lib.count_miss hi,Abw hm]
   exact ⟨rfl,Nat.zero_le _⟩
theorem Am8 (s:List UInt8):Lib.replaceAll s [39] [39,39]=Bv s:=by
 unfold Lib.replaceAll Lib.replace
 rw [if_neg (by decide)]
 unfold Lib.replaceNum
 rw [if_pos (.inl (by decide))]
 exact (Z4 s.length s (Nat.le_refl _)).1
open Go Go.RowKit
theorem Ayf:A0 (.atom 3) (Am PG (Aj An [.prim Aev [.atom 0, .str [39], .str [39,39]] (.atom 1), .op (.bin .add Ar) [.str [39], .atom 1] (.atom 2), .op (.bin .add Ar) [.atom 2, .str [39]] (.atom 3)]) 10 G2 [.agg [nI 4,nI 0,nI 0, .atom 0]] [])=true:=by kernel_rfl
theorem Xb:∀ l:List UInt8,(Bv l).length≤2*l.length
 | []=>by simp [Bv]
 | c::l=>by
  have:=Xb l
  by_cases h:c=39
  ·subst h;rw [Py];simp;omega
  ·rw [N5 h];simp;omega
theorem Apr {l:List UInt8} (hl:l.length≤40):Ev PG G2 [vP (4,0,0,l)] (.str (39::(Bv l++[39]))):=by
 have h:=Ane l [39] [39,39] (by omega) (by decide) (by
  have h2:=(Z4 l.length l (Nat.le_refl _)).2
  have e:Lib.countB ⟨l.toArray⟩ ⟨([39]:List UInt8).toArray⟩=Lib.count l [39]:=rfl
  rw [e];simp only [List.length_cons,List.length_nil];omega)
 rw [Am8] at h
 have he:=Xb l
 exact Ev.facts (nu:=Ab [.str l, .str (Bv l), .str ([39]++Bv l), .str ([39]++Bv l++[39])]) (args:=[.agg [nI 4,nI 0,nI 0, .atom 0]]) Af (Ap rfl) (As Ayf) ⟨Ai h rfl rfl rfl,Ax (l:=[39]) (m:=Bv l) rfl rfl (by simp;omega) rfl rfl,Ax (l:=[39]++Bv l) (m:=[39]) rfl rfl (by simp;omega) rfl rfl,trivial⟩ rfl rfl
def Zd:List (Nat × PV):=[(1, .box 0 0),(5, .atom 1),(6, .atom 2)]
def M1:List Aa:=[.box [nI 4,nI 0,nI 0, .atom 0]]
def rxA (b:Bool):List Ao:=[.op (.len Ar) [.atom 0] (.atom 3),oI .lss (.atom 2) (.atom 3) (.bool b)]
def rxB (q:Bool):List Ao:=[oI .add (.atom 2) (nI 1) (.atom 4), .op (.slice Ar true true) [.atom 0, .atom 2, .atom 4] (.atom 5), .op (.bin .add Ar) [.atom 1, .atom 5] (.atom 6), .op (.index Ar) [.atom 0, .atom 2] (.atom 7),bI .eql (.atom 7) 39 q]
def rxQ:Bool→List Ao
 | true=>[.op (.bin .add Ar) [.atom 6, .str [39]] (.atom 8)]
 | false=>[]
noncomputable abbrev Ak3 (fs:List Ao):Option (Ex × St):=Gv PG (Aj An fs) (Am PG (Aj An fs) 5) ((Aj An fs).loop Eg) 5 3 (Du PG Eg 18) ⟨Zd,M1⟩
theorem Xz:Hj PG Eg 18=true:=by kernel_rfl
theorem Ay2:Dc (Ak3 (rxA false)) (.exit 3) [(1, .box 0 0),(5, .atom 1)] M1=true:=by kernel_rfl
theorem Al7:bl (fun q=>Dc (Ak3 (rxA true++(rxB q++rxQ q))) .normal [(1, .box 0 0),(5, .atom (if q then 8 else 6)),(6, .atom 4)] M1)=true:=by kernel_rfl
theorem Azq:A0 (.atom 2) (Am PG (Aj An [.loop Eg 18 [(1, .box 0 0),(5, .str [39]),(6,nI 0)] [.box [nI 4,nI 0,nI 0, .atom 0]] (.exit 3) [(1, .box 0 0),(5, .atom 1)] [.box [nI 4,nI 0,nI 0, .atom 0]], .op (.bin .add Ar) [.atom 1, .str [39]] (.atom 2)]) 10 Eg [.agg [nI 4,nI 0,nI 0, .atom 0]] [])=true:=by kernel_rfl
def Yz (s acc:List UInt8) (i:Nat) (c:UInt8):List PV:=[.str s, .str acc,nI i,nI s.length,nI (i+1:Nat), .str [c], .str (acc++[c]),nB c, .str (acc++[c]++[39])]
set_option maxRecDepth 20000 in
theorem As1 {s:List UInt8} (hs:s.length≤1000):∀ (l:List UInt8) (acc:List UInt8) (i:Nat),s.drop i=l→i≤s.length→acc.length≤2*i+1 →
  By PG (Fq PG Eg) (Du PG Eg 18) [(1, .box 0 0),(5, .str acc),(6,nI i)] [.box [nI 4,nI 0,nI 0, .str s]] (.exit 3) [(1, .box 0 0),(5, .str (acc++Bv l))] [.box [nI 4,nI 0,nI 0, .str s]]:=by
 intro l
 induction l with
 | nil =>
  intro acc i hi h1 ha
  have hlen:s.length≤i:=by
   have:=congrArg List.length hi
   simp at this;omega
  have e:acc++Bv []=acc:=List.append_nil acc
  rw [e]
  refine By.leave ?_ (fun h=>by cases h)
  exact Ci.chk (nu:=Ab (Yz s acc i 0)) Af (Ap rfl) (T:=Zd) (s:=M1) (T':=[(1, .box 0 0),(5, .atom 1)]) (s':=M1) Xz Ay2
   ⟨C2 rfl rfl rfl,Av (c:=false) (a:=i) (b:=s.length) rfl rfl rfl (by simp only [Aq];rw [decide_eq_false (by omega)]) (by decide) rfl,trivial⟩ rfl rfl rfl
 | cons c l ih =>
  intro acc i hi h1 ha
  obtain ⟨hil,hx⟩:=D7 hi
  have hl:s.drop (i+1)=l:=by
   have:=congrArg List.tail hi
   simpa using this
  have e4:IntKind.i64.wrap ((i:Int)+1)=((i+1:Nat):Int):=by rw [Dn (by omega) (by omega)];omega
  have hsl:(s.take (i+1)).drop i=[c]:=Abm hx
  have hB:∀ q,(c==39)=q→Ah PG (Ab (Yz s acc i c)) (rxA true++(rxB q++rxQ q)):=fun q hq =>
   Ah.append ⟨C2 rfl rfl rfl,Av (c:=true) (a:=i) (b:=s.length) rfl rfl rfl (by simp only [Aq];rw [decide_eq_true (by omega)]) (by decide) rfl,trivial⟩ (Ah.append ⟨Bm (a:=i) (b:=1) rfl rfl rfl (by simp only [Aq];rw [e4]) (by decide) rfl,Pe (i:=i) (j:=i+1) rfl rfl rfl (by omega) hsl rfl rfl,
    Ax (l:=acc) (m:=[c]) rfl rfl (by simp;omega) rfl rfl,G4 rfl rfl hx rfl rfl,Ef (a:=(c.toNat:Nat)) (b:=(39:Nat)) rfl rfl (Gz (c:=c) (n:=39) (b:=q) (by decide) hq) rfl (by decide) rfl,trivial⟩ (by
     cases q with
     | true=>exact ⟨Ax (l:=acc++[c]) (m:=[39]) rfl rfl (by simp;omega) rfl rfl,trivial⟩
     | false=>exact trivial))
  by_cases hc:c=39
  ·have h:=ih (acc++[c]++[39]) (i+1) hl (by omega) (by simp;omega)
   have e:acc++[c]++[39]++Bv l=acc++Bv (c::l):=by rw [hc,Py];simp
   rw [e] at h
   refine By.round ?_ h
   exact Ci.chk (nu:=Ab (Yz s acc i c)) Af (Ap rfl) (T:=Zd) (s:=M1) (T':=[(1, .box 0 0),(5, .atom 8),(6, .atom 4)]) (s':=M1) Xz (Bo Al7 true) (hB true (by rw [hc];rfl)) rfl rfl rfl
  ·have h:=ih (acc++[c]) (i+1) hl (by omega) (by simp;omega)
   have e:acc++[c]++Bv l=acc++Bv (c::l):=by rw [N5 hc];simp
   rw [e] at h
   refine By.round ?_ h
   exact Ci.chk (nu:=Ab (Yz s acc i c)) Af (Ap rfl) (T:=Zd) (s:=M1) (T':=[(1, .box 0 0),(5, .atom 6),(6, .atom 4)]) (s':=M1) Xz (Bo Al7 false) (hB false (beq_eq_false_iff_ne.2 hc)) rfl rfl rfl
theorem Apx {l:List UInt8} (hl:l.length≤40):Ev PG Eg [vP (4,0,0,l)] (.str (39::(Bv l++[39]))):=by
 have h:=As1 (s:=l) (by omega) l [39] 0 rfl (Nat.zero_le _) (by simp)
 have he:=Xb l
 exact Ev.facts (nu:=Ab [.str l, .str ([39]++Bv l), .str ([39]++Bv l++[39])]) (args:=[.agg [nI 4,nI 0,nI 0, .atom 0]]) Af (Ap rfl) (As Azq) ⟨Ho Xz (Nat.le_refl _) h rfl,Ax (l:=[39]++Bv l) (m:=[39]) rfl rfl (by simp;omega) rfl rfl,trivial⟩ rfl rfl
end Go.Proofs.YtdlkibeljkapeaaGreatDoor.Den
