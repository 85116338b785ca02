-- Written by drive.py and pack.py (programs of this proof's own) through the kit's printer; not trusted: Lean checks it.
import Derived.Test.YtglffgneikoeaaaCEvalAll11
import Derived.Test.YtglffgneikoeaaaCEvalAll2
import Derived.Lib.SmallJoins
import Derived.Test.YtglffgneikoeaaaCEvalAll8
import Derived.Test.YtglffgneikoeaaaCEvalAll7
import Derived.Test.YtglffgneikoeaaaCEvalAll9
import Derived.Test.YtglffgneikoeaaaCEvalAll6
import Derived.Test.YtglffgneikoeaaaCEvalAll4
namespace Go.Proofs.Ytglffgneikoeaaa.Den
open Go Go.RowKit
theorem name_k:((List.range 4).all fun (i:Nat)=>okR ([PV.str [116], .str [117], .str [119,95,49], .str [116,119,101,108,118,101,95,98,121,116,101,115]].getD i .any) (callF PG (fOrc noOwn [.prim f_l3_within [.atom 0,nI 4] (nI i)]) 20 f_l3_Name [.atom 0] []))=true:=by kernel_rfl
def nameL (n:Int):List UInt8:=[[116],[117],[119,95,49],[116,119,101,108,118,101,95,98,121,116,101,115]].getD (wthn n 4).toNat []
theorem name_ev (n:Int):Ev PG f_l3_Name [nI n] (.str (nameL n)):=by
 obtain ⟨h1,h2⟩:=wthn_range n 4 (by decide) (by decide)
 obtain ⟨i,hi⟩:∃ i:Nat,wthn n 4=i:=⟨(wthn n 4).toNat,by omega⟩
 have hw:=within3_ev n 4 (by decide)
 rw [hi] at hw
 have hk:=okR_eq (List.all_eq_true.1 name_k i (by rw [List.mem_range];omega))
 have e:nameL n=([[116],[117],[119,95,49],[116,119,101,108,118,101,95,98,121,116,101,115]]:List (List UInt8)).getD i []:=by unfold nameL;rw [hi];rfl
 rw [e]
 have h4:i=0∨i=1∨i=2∨i=3:=by omega
 rcases h4 with rfl|rfl|rfl|rfl
 all_goals exact Ev.facts prog_ok (nuL_okB (l:=[nI n]) rfl) hk ⟨⟨hw,rfl⟩,trivial⟩ rfl rfl
open Go Go.RowKit
theorem slLen_ok {mv:PV} {xs:List Int} (hmv:mv = .slice 1 (xs.map (.int .i64))∨(mv = .nilslice∧xs=[])):lenP PG ty_sl_int mv=some (nI xs.length):=by
 have hu:PG.underlying ty_sl_int=some (.slice ty_int):=by kernel_rfl
 unfold lenP
 rw [hu]
 rcases hmv with rfl|⟨rfl,rfl⟩
 ·simp
 ·rfl
theorem slIx_ok {mv:PV} {xs:List Int} (hmv:mv = .slice 1 (xs.map (.int .i64))∨(mv = .nilslice∧xs=[])) {i:Nat} (hi:i < xs.length):indexAddrP PG ty_sl_int mv (nI i)=some (.ref [nI (xs.getD i 0)]):=by
 have hu:PG.underlying ty_sl_int=some (.slice ty_int):=by kernel_rfl
 have hs:sizeP PG ty_int=some 1:=by kernel_rfl
 unfold indexAddrP
 rw [hu]
 rcases hmv with rfl|⟨rfl,rfl⟩
 ·have:(xs.map (PV.int .i64))[((i:Nat):Int).toNat]? = some (nI (xs.getD i 0)):=by
   simp [hi]
  simp only [hs,true_and]
  rw [if_pos (by omega),this]
  rfl
 ·simp at hi
theorem fLen {nu:Nat→PV} {j k:Nat} {mv:PV} {xs:List Int} (hmv:mv = .slice 1 (xs.map (.int .i64))∨(mv = .nilslice∧xs=[])) (h1:nu j=mv) (h2:nu k=nI xs.length):FactOk PG nu (.op (.len ty_sl_int) [.atom j] (.atom k)):=by
 refine ⟨?_,?_⟩
 ·show lenP PG ty_sl_int (nu j)=some (nu k)
  rw [h1,h2];exact slLen_ok hmv
 ·show (nu k).one=true
  rw [h2];rfl
theorem fIx {nu:Nat→PV} {j k i:Nat} {mv:PV} {xs:List Int} (hmv:mv = .slice 1 (xs.map (.int .i64))∨(mv = .nilslice∧xs=[])) (hi:i < xs.length) (h1:nu j=mv) (h2:nu k=nI (xs.getD i 0)):FactOk PG nu (.op (.ix ty_sl_int) [.atom j,nI i] (.ref [.atom k])):=by
 refine ⟨?_,rfl⟩
 show indexAddrP PG ty_sl_int (nu j) (nI i)=some (.ref [nu k])
 rw [h1,h2];exact slIx_ok hmv hi
theorem pureL_of {l:List PV} (h:∀ p∈l,p.pure=true):PV.pureL l=true:=by
 induction l with
 | nil=>rfl
 | cons p l ih =>
  simp only [PV.pureL,Bool.and_eq_true]
  exact ⟨h p (by simp),ih fun q hq=>h q (by simp [hq])⟩
theorem ints_good {mv:PV} {xs:List Int} (hmv:mv = .slice 1 (xs.map (.int .i64))∨(mv = .nilslice∧xs=[])):(mv.clean&&mv.pure)=true∧mv.one=true:=by
 rcases hmv with rfl|⟨rfl,_⟩
 ·refine ⟨?_,rfl⟩
  simp only [PV.clean,Bool.true_and]
  show PV.pureL _=true
  exact pureL_of fun p hp=>by obtain ⟨x,_,rfl⟩:=List.mem_map.1 hp;rfl
 ·exact ⟨rfl,rfl⟩
abbrev w6' (n:Int):Int:=IntKind.i64.wrap n
def tM (xs:List Int) (i:Nat):Int:=wthn (xs.getD i 0) 1073741824
def tL (n : Int) (mv : PV) (xs : List Int) (k : Nat) : List PV :=
  [nI n, mv, nI xs.length, nI (w6' (n.tdiv 4)), .str (nameL n), nI (w6' (n.tdiv 16)), nI (w6' (n.tdiv 64)), nI (w6' (n.tdiv 256)), nI (w6' (n.tdiv 512)), nI (w6' (n.tdiv 1024)),
   nI 0, nI 0, nI 0, nI 0, nI 0, nI 0, nI 0, nI 0, nI 0, nI 0,
   nI (xs.getD 0 0), nI (xs.getD 1 0), nI (xs.getD 2 0), nI (xs.getD 3 0), nI (tM xs 0), nI (tM xs 1), nI (tM xs 2), nI (tM xs 3),
   nI ((tM xs 0).tmod 5), nI ((tM xs 1).tmod 5), nI ((tM xs 2).tmod 5), nI ((tM xs 3).tmod 5), nI (w6' (1 + (tM xs 0).tmod 5)), nI (w6' (1 + (tM xs 1).tmod 5)), nI (w6' (1 + (tM xs 2).tmod 5)), nI (w6' (1 + (tM xs 3).tmod 5)),
   nI (w6' ((tM xs 0).tdiv 5)), nI (w6' ((tM xs 1).tdiv 5)), nI (w6' ((tM xs 2).tdiv 5)), nI (w6' ((tM xs 3).tdiv 5)), nI ((w6' ((tM xs 0).tdiv 5)).tmod 3), nI ((w6' ((tM xs 1).tdiv 5)).tmod 3), nI ((w6' ((tM xs 2).tdiv 5)).tmod 3), nI ((w6' ((tM xs 3).tdiv 5)).tmod 3),
   .bool ((w6' ((tM xs 0).tdiv 5)).tmod 3 == 0), .bool ((w6' ((tM xs 1).tdiv 5)).tmod 3 == 0), .bool ((w6' ((tM xs 2).tdiv 5)).tmod 3 == 0), .bool ((w6' ((tM xs 3).tdiv 5)).tmod 3 == 0),
   nI (w6' (w6' (n.tdiv 512) + 0)), nI (w6' (w6' (n.tdiv 512) + 1)), nI (wthn (w6' (w6' (n.tdiv 512) + 0)) k), nI (wthn (w6' (w6' (n.tdiv 512) + 1)) k), nI (w6' (w6' (n.tdiv 1024) + 0)), nI (w6' (w6' (n.tdiv 1024) + 1)), .str (nameL (w6' (w6' (n.tdiv 1024) + 0))), .str (nameL (w6' (w6' (n.tdiv 1024) + 1)))]
theorem tL_ok (n:Int) {mv:PV} {xs:List Int} (hmv:mv = .slice 1 (xs.map (.int .i64))∨(mv = .nilslice∧xs=[])) (k:Nat):NuOk (nuL (tL n mv xs k)):=by
 refine nuL_okB ?_
 unfold tL
 simp only [List.all_cons,(ints_good hmv).1,List.all_nil]
 rfl
theorem fprim {nu:Nat→PV} {g:FuncId} {args:List PV} {r:PV} {a:List PV} {b:PV} (h:Ev PG g a b) (h1:args.map (subD nu)=a) (h2:subD nu r=b) (h3:oneB nu r=true):FactOk PG nu (.prim g args r):=⟨by rw [h1,h2];exact h,h3⟩
theorem tFacts_ok (n:Int) {mv:PV} {xs:List Int} (hmv:mv = .slice 1 (xs.map (.int .i64))∨(mv = .nilslice∧xs=[])) (k L key u l:Nat) (hk:1≤k∧k≤4) (hL:L=min xs.length k) (e1:wthn (w6' (n.tdiv 4)) 4=(k:Int) - 1) (e2:wthn (w6' (n.tdiv 16)) k=key)
  (e3:wthn (w6' (n.tdiv 64)) 3=u) (e4:wthn (w6' (n.tdiv 256)) 3=l) (hl:l < 3):FactsOk PG (nuL (tL n mv xs k)) (tFacts k L key u l):=by
 have hk0:(k:Int)≠0:=by omega
 have four:∀ i,i < L→(i=0∨i=1∨i=2∨i=3)∧i < xs.length:=fun i hi=>by omega
 have w1:=within3_ev (w6' (n.tdiv 4)) 4 (by decide)
 have w2:=within3_ev (w6' (n.tdiv 16)) k hk0
 have w3:=within3_ev (w6' (n.tdiv 64)) 3 (by decide)
 have w4:=within3_ev (w6' (n.tdiv 256)) 3 (by decide)
 rw [e1] at w1
 rw [e2] at w2
 rw [e3] at w3
 rw [e4] at w4
 unfold tFacts
 refine FactsOk.append (FactsOk.append (FactsOk.append ⟨?_,?_,?_,?_,?_,?_,?_,?_,?_,?_,?_,?_,trivial⟩ (FactsOk.of ?_)) (FactsOk.of ?_)) (FactsOk.of ?_)
 ·exact fInt rfl rfl rfl rfl (by decide) rfl
 ·exact fprim w1 rfl rfl rfl
 ·exact fprim (name_ev n) rfl rfl rfl
 ·exact fLen hmv rfl rfl
 ·exact fInt rfl rfl rfl rfl (by decide) rfl
 ·exact fprim w2 rfl rfl rfl
 ·exact fInt rfl rfl rfl rfl (by decide) rfl
 ·exact fprim w3 rfl rfl rfl
 ·exact fInt rfl rfl rfl rfl (by decide) rfl
 ·exact fprim w4 rfl rfl rfl
 ·exact fInt rfl rfl rfl rfl (by decide) rfl
 ·exact fInt rfl rfl rfl rfl (by decide) rfl
 ·intro f hf
  obtain ⟨i,hi,hf⟩:=List.mem_flatMap.1 hf
  rw [List.mem_range] at hi
  obtain ⟨h4,hx⟩:=four i hi
  have hlt:((i:Nat):Int) < (xs.length:Int):=by omega
  have hw:=within3_ev (xs.getD i 0) 1073741824 (by decide)
  simp only [List.mem_cons,List.not_mem_nil,or_false] at hf
  rcases hf with rfl|rfl|rfl|rfl|rfl|rfl|rfl|rfl
  ·exact fCmp (c:=true) (a:=i) (b:=xs.length) rfl rfl rfl (by simp [intP,hlt]) (by decide) rfl
  ·rcases h4 with rfl|rfl|rfl|rfl<;>exact fIx hmv hx rfl rfl
  ·rcases h4 with rfl|rfl|rfl|rfl<;>exact fprim hw rfl rfl rfl
  ·rcases h4 with rfl|rfl|rfl|rfl<;>exact fInt rfl rfl rfl rfl (by decide) rfl
  ·rcases h4 with rfl|rfl|rfl|rfl<;>exact fInt rfl rfl rfl rfl (by decide) rfl
  ·rcases h4 with rfl|rfl|rfl|rfl<;>exact fInt rfl rfl rfl rfl (by decide) rfl
  ·rcases h4 with rfl|rfl|rfl|rfl<;>exact fInt rfl rfl rfl rfl (by decide) rfl
  ·rcases h4 with rfl|rfl|rfl|rfl<;>exact fCmp rfl rfl rfl rfl (by decide) rfl
 ·intro f hf
  obtain ⟨i,hi,rfl⟩:=List.mem_map.1 hf
  rw [List.mem_range] at hi
  have hge:¬ ((L+i:Nat):Int) < (xs.length:Int):=by omega
  exact fCmp (c:=false) (a:=(L+i:Nat)) (b:=xs.length) rfl rfl rfl (by simp only [intP];rw [decide_eq_false hge]) (by decide) rfl
 ·intro f hf
  obtain ⟨i,hi,hf⟩:=List.mem_flatMap.1 hf
  rw [List.mem_range] at hi
  have h2:i=0∨i=1:=by omega
  have hw:=within3_ev (w6' (w6' (n.tdiv 512)+i)) k hk0
  have hn:=name_ev (w6' (w6' (n.tdiv 1024)+i))
  simp only [List.mem_cons,List.not_mem_nil,or_false] at hf
  rcases hf with rfl|rfl|rfl|rfl<;>rcases h2 with rfl|rfl
  ·exact fInt rfl rfl rfl rfl (by decide) rfl
  ·exact fInt rfl rfl rfl rfl (by decide) rfl
  ·exact fprim hw rfl rfl rfl
  ·exact fprim hw rfl rfl rfl
  ·exact fInt rfl rfl rfl rfl (by decide) rfl
  ·exact fInt rfl rfl rfl rfl (by decide) rfl
  ·exact fprim hn rfl rfl rfl
  ·exact fprim hn rfl rfl rfl
open Go Go.RowKit
def Ad3 (p:PV):Bool:=p.clean&&(p.pure&&p.one)
def Am2 (ty:Nat→Int) (nn:Nat→Bool) (i:Nat):PV:=.agg [.str [UInt8.ofNat (97+i)],nI (ty i), .bool (nn i)]
def Amh (nm:List UInt8) (k:Nat) (ty:Nat→Int) (nn:Nat→Bool) (key:Nat) (uq lk:PV):PV:=tabC (.str nm) (.slice 3 ((List.range k).map (Am2 ty nn))) (nI key) uq lk
theorem A8h (nu:Nat→PV) (k key u:Nat):Ad3 (subD nu (uqA k key u))=true:=by
 unfold uqA
 split
 ·rfl
 ·show (true&&(PV.pureL (subDL nu _)&&true))=true
  rw [pureL_of]
  ·rfl
  ·intro p hp
   rw [subDL_map,List.map_map] at hp
   obtain ⟨x,_,rfl⟩:=List.mem_map.1 hp
   rfl
theorem A8k (n:Int) (mv:PV) (xs:List Int) (k l:Nat) (hl:l < 3):Ad3 (subD (nuL (tL n mv xs k)) (lkA l))=true:=by
 have:l=0∨l=1∨l=2:=by omega
 rcases this with rfl|rfl|rfl<;>rfl
theorem sub_tabA (n:Int) (mv:PV) (xs:List Int) (k L key u l:Nat) (hk:k≤4):∃ ty nn,(∀ i,i < 4→1≤ty i∧ty i≤5)∧nn key=true ∧
  subD (nuL (tL n mv xs k)) (tabA k L key u l)=Amh (nameL n) k ty nn key (subD (nuL (tL n mv xs k)) (uqA k key u)) (subD (nuL (tL n mv xs k)) (lkA l)):=by
 refine ⟨fun i=>if i < L then w6' (1+(tM xs i).tmod 5) else (1+(2+i) % 5:Nat),fun i=>if i=key then true else if i < L then (w6' ((tM xs i).tdiv 5)).tmod 3==0 else ((2+i) / 5 % 3==0),fun i _=>?_,if_pos rfl,?_⟩
 ·show 1≤(if i < L then w6' (1+(tM xs i).tmod 5) else ((1+(2+i) % 5:Nat):Int))∧(if i < L then w6' (1+(tM xs i).tmod 5) else ((1+(2+i) % 5:Nat):Int))≤5
  split
  ·obtain ⟨h1,h2⟩:=wthn_range (xs.getD i 0) 1073741824 (by decide) (by decide)
   have h1':0≤tM xs i:=h1
   have e:(tM xs i).tmod 5=tM xs i % 5:=Int.tmod_eq_emod_of_nonneg h1'
   have e2:w6' (1+tM xs i % 5)=1+tM xs i % 5:=Go.IntWalk.i64_in _ (by omega)
   rw [e,e2];omega
  ·omega
 ·show tabC _ (.slice 3 (subDL _ ((List.range k).map (colA L key)))) _ _ _=_
  have:subDL (nuL (tL n mv xs k)) ((List.range k).map (colA L key))=(List.range k).map (Am2 (fun i=>if i < L then w6' (1+(tM xs i).tmod 5) else (1+(2+i) % 5:Nat)) (fun i=>if i=key then true else if i < L then (w6' ((tM xs i).tdiv 5)).tmod 3==0 else ((2+i) / 5 % 3==0))):=by
   rw [subDL_map,List.map_map]
   refine List.map_congr_left fun i hi=>?_
   rw [List.mem_range] at hi
   have h4:i=0∨i=1∨i=2∨i=3:=by omega
   simp only [Function.comp,colA,Am2]
   by_cases h1:i < L
   ·by_cases h2:i=key
    ·simp only [if_pos h1,if_pos h2]
     rcases h4 with rfl|rfl|rfl|rfl<;>rfl
    ·simp only [if_pos h1,if_neg h2]
     rcases h4 with rfl|rfl|rfl|rfl<;>rfl
   ·by_cases h2:i=key
    ·simp only [if_neg h1,if_pos h2]
     rcases h4 with rfl|rfl|rfl|rfl<;>rfl
    ·simp only [if_neg h1,if_neg h2]
     rcases h4 with rfl|rfl|rfl|rfl<;>rfl
  rw [this]
  rfl
theorem A5n {nm:List UInt8} {k:Nat} {ty:Nat→Int} {nn:Nat→Bool} {key:Nat} {uq lk:PV} (h1:Ad3 uq=true) (h2:Ad3 lk=true):((Amh nm k ty nn key uq lk).pure&&(Amh nm k ty nn key uq lk).shut2)=true:=by
 simp only [Ad3,Bool.and_eq_true] at h1 h2
 have e:PV.pureL ((List.range k).map (Am2 ty nn))=true:=pureL_of fun p hp=>by obtain ⟨i,_,rfl⟩:=List.mem_map.1 hp;rfl
 rw [Bool.and_eq_true]
 constructor
 ·simp only [Amh,tabC,PV.pure,PV.pureL,e,h1.2.1,h2.2.1,Bool.and_self]
 ·show (true&&(true&&(true&&(uq.clean&&(true&&(true&&(true&&(true&&(true&&(true&&(true&&(lk.clean&&true))))))))))))=true
  rw [h1.1,h2.1];rfl
theorem table_ev (n:Int) {mv:PV} {xs:List Int} (hmv:mv = .slice 1 (xs.map (.int .i64))∨(mv = .nilslice∧xs=[])) :
  ∃ (k key:Nat) (nm:List UInt8) (ty:Nat→Int) (nn:Nat→Bool) (uq lk:PV),(1≤k∧k≤4)∧key < k∧(∀ i,i < 4→1≤ty i∧ty i≤5)∧Ad3 uq=true∧Ad3 lk=true∧Ev PG f_l3_Table [nI n,mv, .nilslice] (Amh nm k ty nn key uq lk):=by
 obtain ⟨a1,a2⟩:=wthn_range (w6' (n.tdiv 4)) 4 (by decide) (by decide)
 obtain ⟨k,hk⟩:∃ k:Nat,wthn (w6' (n.tdiv 4)) 4=(k:Int) - 1:=⟨(wthn (w6' (n.tdiv 4)) 4).toNat+1,by omega⟩
 have hk4:1≤k∧k≤4:=by omega
 obtain ⟨b1,b2⟩:=wthn_range (w6' (n.tdiv 16)) k (by omega) (by omega)
 obtain ⟨key,hkey⟩:∃ j:Nat,wthn (w6' (n.tdiv 16)) k=j:=⟨(wthn (w6' (n.tdiv 16)) k).toNat,by omega⟩
 obtain ⟨c1,c2⟩:=wthn_range (w6' (n.tdiv 64)) 3 (by decide) (by decide)
 obtain ⟨u,hu⟩:∃ j:Nat,wthn (w6' (n.tdiv 64)) 3=j:=⟨(wthn (w6' (n.tdiv 64)) 3).toNat,by omega⟩
 obtain ⟨d1,d2⟩:=wthn_range (w6' (n.tdiv 256)) 3 (by decide) (by decide)
 obtain ⟨l,hl⟩:∃ j:Nat,wthn (w6' (n.tdiv 256)) 3=j:=⟨(wthn (w6' (n.tdiv 256)) 3).toNat,by omega⟩
 have hf:=tFacts_ok n hmv k (min xs.length k) key u l hk4 rfl hk hkey hu hl (by omega)
 have hr:=okR_eq (table_k k (min xs.length k) key u l hk4 (by omega) (by omega) (by omega) (by omega))
 obtain ⟨ty,nn,t1,t2,t3⟩:=sub_tabA n mv xs k (min xs.length k) key u l (by omega)
 have hu':=A8h (nuL (tL n mv xs k)) k key u
 have hl':=A8k n mv xs k l (by omega)
 refine ⟨k,key,nameL n,ty,nn,_,_,hk4,by omega,t1,hu',hl',?_⟩
 rw [← t3]
 have hg:=ints_good hmv
 simp only [Bool.and_eq_true] at hg
 refine Ev.facts prog_ok (tL_ok n hmv k) hr hf ?_ (by rw [t3];exact A5n hu' hl')
 show ((true&&true)&&true&&(((mv.pure&&mv.one)&&true)&&(_&&true)))=true
 rw [hg.1.2,hg.2];rfl
open Go Go.RowKit
def A4o (i:Nat):PV:=.agg [.str [UInt8.ofNat (97+i)], .atom (4+i), .atom (8+i)]
def Amg (k:Nat):PV:=tabC (.atom 3) (.slice 3 ((List.range k).map A4o)) (.atom 12) (.atom 13) (.atom 14)
def mk4 (b:Nat):List PV:=[.atom b, .atom (b+1), .atom (b+2), .atom (b+3)]
def A3q (k m : Nat) (g : Nat → Bool) : List Fact :=
  .op (.len ty_sl_int) [.atom 0] (.atom 1) ::
  ((List.range m).flatMap (fun (i : Nat) => [oI .lss (nI i) (.atom 1) (.bool true), .op (.ix ty_sl_int) [.atom 0, nI i] (.ref [.atom (20 + i)]), .prim A7o [.atom (20 + i), nI 1099511627776] (.atom (24 + i)), oI .rem (.atom (24 + i)) (nI 7) (.atom (28 + i)), oI .gtr (.atom (28 + i)) (nI 0) (.bool (g i)),
     oI .quo (.atom (24 + i)) (nI 7) (.atom (32 + i)), oI .rem (.atom (32 + i)) (nI 30) (.atom (36 + i)), oI .mul (nI 6) (.atom (36 + i)) (.atom (40 + i)), oI .add (.atom (4 + i)) (.atom (40 + i)) (.atom (44 + i)),
     oI .quo (.atom (24 + i)) (nI 50) (.atom (48 + i)), oI .rem (.atom (48 + i)) (nI 200) (.atom (52 + i)), oI .sub (.atom (52 + i)) (nI 100) (.atom (56 + i)), .prim f_l1_Make [.atom (44 + i), .atom (56 + i), .atom 2] (.agg (mk4 (60 + 4 * i)))]) ++
  (List.range (k - m)).flatMap (fun (j : Nat) => [oI .lss (nI (m + j : Nat)) (.atom 1) (.bool false), oI .add (.atom (4 + (m + j))) (nI 0) (.atom (76 + (m + j))), .prim f_l1_Make [.atom (76 + (m + j)), nI (-100), .atom 2] (.agg (mk4 (80 + 4 * (m + j))))]))
def zeroV:List PV:=[nI 0,nI 0,nI 0, .str []]
def A4q (m:Nat) (g:Nat→Bool) (i:Nat):List PV:=if i < m then (if g i then mk4 (60+4*i) else zeroV) else (if i=0 then zeroV else mk4 (80+4*i))
def A4n (k:Nat) (cs:List PV):Option (PV × List Res)→Bool
 | some (.ms i n,s)=>match s[i]? with|some (.row e sz m cs')=>Nat.beq n k&&(Nat.beq m k&&(Nat.beq e ty_api_Value&&(Nat.beq sz 4&&PV.sameL cs' cs)))|_=>false
 | _=>false
theorem A7x {k:Nat} {cs:List PV} {o:Option (PV × List Res)} (h:A4n k cs o=true):∃ i s,o=some (.ms i k,s)∧s[i]? = some (.row ty_api_Value 4 k cs):=by
 unfold A4n at h
 split at h
 ·rename_i i n s
  split at h
  ·rename_i e sz m cs' hr
   simp only [Bool.and_eq_true,Nat.beq_eq] at h
   obtain ⟨rfl,rfl,rfl,rfl,h5⟩:=h
   exact ⟨i,s,rfl,by rw [hr,sameL_eq _ _ h5]⟩
  ·cases h
 ·cases h
noncomputable def A9l (k m b:Nat):Bool:=A4n k ((List.range k).flatMap (A4q m (Amt b))) (callB PG (fOrc noOwn (A3q k m (Amt b))) (callF PG (fOrc noOwn (A3q k m (Amt b))) 60) 60 A2v [Amg k, .atom 0, .atom 2] [])
theorem A8w:((List.range 5).all fun k=>(List.range (k+1)).all fun m=>(List.range (2 ^ m)).all fun b=>Nat.beq k 0||A9l k m b)=true:=by kernel_rfl
open Go Go.RowKit
open Go.Proofs.Ytglffgneikoeaaa.M
abbrev V4:=Int × Int × Int × List UInt8
def Aee (v:V4):List PV:=[nI v.1,nI v.2.1,nI v.2.2.1, .str v.2.2.2]
def A3p (ty:Int) (v:V4):Prop:=v=(0,0,0,[])∨∃ N S st,v=(ty,N,((S:Nat):Int),st.data.toList)∧Made ty N S st
def rN (xs:List Int) (i:Nat):Int:=wthn (xs.getD i 0) 1099511627776
def rC (ty:Nat→Int) (xs:List Int) (i:Nat):Int:=w6' (ty i+w6' (6*(w6' ((rN xs i).tdiv 7)).tmod 30))
def rD (xs:List Int) (i:Nat):Int:=w6' ((w6' ((rN xs i).tdiv 50)).tmod 200 - 100)
def rL (mv : PV) (xs : List Int) (s nm : List UInt8) (ty : Nat → Int) (nn : Nat → Bool) (key : Nat) (uq lk : PV) (V V0 : Nat → V4) : List PV :=
  [mv, nI xs.length, .str s, .str nm, nI (ty 0), nI (ty 1), nI (ty 2), nI (ty 3), .bool (nn 0), .bool (nn 1), .bool (nn 2), .bool (nn 3), nI key, uq, lk, nI 0, nI 0, nI 0, nI 0, nI 0,
   nI (xs.getD 0 0), nI (xs.getD 1 0), nI (xs.getD 2 0), nI (xs.getD 3 0), nI (rN xs 0), nI (rN xs 1), nI (rN xs 2), nI (rN xs 3),
   nI ((rN xs 0).tmod 7), nI ((rN xs 1).tmod 7), nI ((rN xs 2).tmod 7), nI ((rN xs 3).tmod 7), nI (w6' ((rN xs 0).tdiv 7)), nI (w6' ((rN xs 1).tdiv 7)), nI (w6' ((rN xs 2).tdiv 7)), nI (w6' ((rN xs 3).tdiv 7)),
   nI ((w6' ((rN xs 0).tdiv 7)).tmod 30), nI ((w6' ((rN xs 1).tdiv 7)).tmod 30), nI ((w6' ((rN xs 2).tdiv 7)).tmod 30), nI ((w6' ((rN xs 3).tdiv 7)).tmod 30),
   nI (w6' (6 * (w6' ((rN xs 0).tdiv 7)).tmod 30)), nI (w6' (6 * (w6' ((rN xs 1).tdiv 7)).tmod 30)), nI (w6' (6 * (w6' ((rN xs 2).tdiv 7)).tmod 30)), nI (w6' (6 * (w6' ((rN xs 3).tdiv 7)).tmod 30)),
   nI (rC ty xs 0), nI (rC ty xs 1), nI (rC ty xs 2), nI (rC ty xs 3), nI (w6' ((rN xs 0).tdiv 50)), nI (w6' ((rN xs 1).tdiv 50)), nI (w6' ((rN xs 2).tdiv 50)), nI (w6' ((rN xs 3).tdiv 50)),
   nI ((w6' ((rN xs 0).tdiv 50)).tmod 200), nI ((w6' ((rN xs 1).tdiv 50)).tmod 200), nI ((w6' ((rN xs 2).tdiv 50)).tmod 200), nI ((w6' ((rN xs 3).tdiv 50)).tmod 200), nI (rD xs 0), nI (rD xs 1), nI (rD xs 2), nI (rD xs 3)] ++
  (Aee (V 0) ++ (Aee (V 1) ++ (Aee (V 2) ++ (Aee (V 3) ++ ([nI (w6' (ty 0 + 0)), nI (w6' (ty 1 + 0)), nI (w6' (ty 2 + 0)), nI (w6' (ty 3 + 0))] ++ (Aee (V0 0) ++ (Aee (V0 1) ++ (Aee (V0 2) ++ Aee (V0 3)))))))))
theorem A9m {mv:PV} {xs:List Int} (hmv:mv = .slice 1 (xs.map (.int .i64))∨(mv = .nilslice∧xs=[])) (s nm:List UInt8) (ty:Nat→Int) (nn:Nat→Bool) (key:Nat) {uq lk:PV} (hu:Ad3 uq=true) (hl:Ad3 lk=true) (V V0:Nat→V4):NuOk (nuL (rL mv xs s nm ty nn key uq lk V V0)):=by
 refine nuL_okB ?_
 have e1:(uq.clean&&uq.pure)=true:=by simp only [Ad3,Bool.and_eq_true] at hu ⊢;exact ⟨hu.1,hu.2.1⟩
 have e2:(lk.clean&&lk.pure)=true:=by simp only [Ad3,Bool.and_eq_true] at hl ⊢;exact ⟨hl.1,hl.2.1⟩
 unfold rL
 simp only [List.cons_append,List.nil_append,List.all_cons,(ints_good hmv).1,e1,e2]
 rfl
theorem A6d (xs:List Int) (i:Nat):0≤rN xs i∧rN xs i < 1099511627776:=wthn_range (xs.getD i 0) 1099511627776 (by decide) (by decide)
theorem A9t (ty:Nat→Int) (xs:List Int) (i:Nat) (h:1≤ty i∧ty i≤5):rC ty xs i % 6=ty i∧I64 (rC ty xs i):=by
 obtain ⟨h1,h2⟩:=A6d xs i
 have hq:(rN xs i).tdiv 7=rN xs i / 7:=Int.tdiv_eq_ediv_of_nonneg h1
 have e1:w6' (rN xs i / 7)=rN xs i / 7:=Go.IntWalk.i64_in _ (by omega)
 have e2:(rN xs i / 7).tmod 30=rN xs i / 7 % 30:=Int.tmod_eq_emod_of_nonneg (by omega)
 have e3:w6' (6*(rN xs i / 7 % 30))=6*(rN xs i / 7 % 30):=Go.IntWalk.i64_in _ (by omega)
 have e4:rC ty xs i=ty i+6*(rN xs i / 7 % 30):=by
  unfold rC
  rw [hq,e1,e2,e3]
  exact Go.IntWalk.i64_in _ (by omega)
 rw [e4]
 exact ⟨by omega,by unfold I64;omega⟩
theorem A8r (xs:List Int) (i:Nat):I64 (rD xs i):=by
 obtain ⟨h1,h2⟩:=A6d xs i
 have hq:(rN xs i).tdiv 50=rN xs i / 50:=Int.tdiv_eq_ediv_of_nonneg h1
 have e1:w6' (rN xs i / 50)=rN xs i / 50:=Go.IntWalk.i64_in _ (by omega)
 have e2:(rN xs i / 50).tmod 200=rN xs i / 50 % 200:=Int.tmod_eq_emod_of_nonneg (by omega)
 have e4:rD xs i=rN xs i / 50 % 200 - 100:=by
  unfold rD
  rw [hq,e1,e2]
  exact Go.IntWalk.i64_in _ (by omega)
 rw [e4]
 unfold I64;omega
theorem A7u {mv:PV} {xs:List Int} (hmv:mv = .slice 1 (xs.map (.int .i64))∨(mv = .nilslice∧xs=[])) (s nm:List UInt8) (ty:Nat→Int) (nn:Nat→Bool) (key:Nat) {uq lk:PV} {V V0:Nat→V4} {k m b:Nat} (hk:k≤4) (hm:m=min xs.length k)
  (hb:∀ i,i < m→Amt b i=decide ((rN xs i).tmod 7 > 0)) (hV:∀ i,i < 4→Ev PG f_l1_Make [nI (rC ty xs i),nI (rD xs i), .str s] (.agg (Aee (V i)))) (hV0:∀ i,i < 4→Ev PG f_l1_Make [nI (w6' (ty i+0)),nI (-100), .str s] (.agg (Aee (V0 i)))) :
  FactsOk PG (nuL (rL mv xs s nm ty nn key uq lk V V0)) (A3q k m (Amt b)):=by
 have four:∀ i,i < m→(i=0∨i=1∨i=2∨i=3)∧i < xs.length:=fun i hi=>by omega
 unfold A3q
 refine ⟨fLen hmv rfl rfl,FactsOk.append (FactsOk.of ?_) (FactsOk.of ?_)⟩
 ·intro f hf
  obtain ⟨i,hi,hf⟩:=List.mem_flatMap.1 hf
  rw [List.mem_range] at hi
  obtain ⟨h4,hx⟩:=four i hi
  have hw:=A7w (xs.getD i 0) 1099511627776 (by decide)
  have hv:=hV i (by omega)
  have h5:=hb i hi
  simp only [List.mem_cons,List.not_mem_nil,or_false] at hf
  rcases hf with rfl|rfl|rfl|rfl|rfl|rfl|rfl|rfl|rfl|rfl|rfl|rfl|rfl
  ·exact fCmp (c:=true) (a:=i) (b:=xs.length) rfl rfl rfl (by simp [intP,hx]) (by decide) rfl
  ·rcases h4 with rfl|rfl|rfl|rfl<;>exact fIx hmv hx rfl rfl
  ·rcases h4 with rfl|rfl|rfl|rfl<;>exact fprim hw rfl rfl rfl
  ·rcases h4 with rfl|rfl|rfl|rfl<;>exact fInt rfl rfl rfl rfl (by decide) rfl
  ·rcases h4 with rfl|rfl|rfl|rfl<;>exact fCmp (b:=0) rfl rfl rfl (by rw [h5];rfl) (by decide) rfl
  ·rcases h4 with rfl|rfl|rfl|rfl<;>exact fInt rfl rfl rfl rfl (by decide) rfl
  ·rcases h4 with rfl|rfl|rfl|rfl<;>exact fInt rfl rfl rfl rfl (by decide) rfl
  ·rcases h4 with rfl|rfl|rfl|rfl<;>exact fInt rfl rfl rfl rfl (by decide) rfl
  ·rcases h4 with rfl|rfl|rfl|rfl<;>exact fInt rfl rfl rfl rfl (by decide) rfl
  ·rcases h4 with rfl|rfl|rfl|rfl<;>exact fInt rfl rfl rfl rfl (by decide) rfl
  ·rcases h4 with rfl|rfl|rfl|rfl<;>exact fInt rfl rfl rfl rfl (by decide) rfl
  ·rcases h4 with rfl|rfl|rfl|rfl<;>exact fInt rfl rfl rfl rfl (by decide) rfl
  ·rcases h4 with rfl|rfl|rfl|rfl<;>exact fprim hv rfl rfl rfl
 ·intro f hf
  obtain ⟨j,hj,hf⟩:=List.mem_flatMap.1 hf
  rw [List.mem_range] at hj
  obtain ⟨i,hi⟩:∃ i,i=m+j:=⟨_,rfl⟩
  have h4:i=0∨i=1∨i=2∨i=3:=by omega
  have hge:¬ ((i:Nat):Int) < (xs.length:Int):=by omega
  have hv:=hV0 i (by omega)
  rw [← hi] at hf
  simp only [List.mem_cons,List.not_mem_nil,or_false] at hf
  rcases hf with rfl|rfl|rfl
  ·exact fCmp (c:=false) (a:=i) (b:=xs.length) rfl rfl rfl (by simp only [intP];rw [decide_eq_false hge]) (by decide) rfl
  ·rcases h4 with rfl|rfl|rfl|rfl<;>exact fInt rfl rfl rfl rfl (by decide) rfl
  ·rcases h4 with rfl|rfl|rfl|rfl<;>exact fprim hv rfl rfl rfl
def A2y (m:Nat) (g:Nat→Bool) (V V0:Nat→V4) (i:Nat):V4:=if i < m then (if g i then V i else (0,0,0,[])) else (if i=0 then (0,0,0,[]) else V0 i)
theorem A8a {mv:PV} {xs:List Int} (hmv:mv = .slice 1 (xs.map (.int .i64))∨(mv = .nilslice∧xs=[])) (s nm:List UInt8) (hs:s.length≤140737488351232) (k:Nat) (hk:1≤k∧k≤4) (ty:Nat→Int) (nn:Nat→Bool) (hty:∀ i,i < 4→1≤ty i∧ty i≤5) (key:Nat) {uq lk:PV} (hu:Ad3 uq=true) (hl:Ad3 lk=true) :
  ∃ V:Nat→V4,(∀ i,i < k→A3p (ty i) (V i))∧EvRow PG A2v [Amh nm k ty nn key uq lk,mv, .str s] ty_api_Value 4 k ((List.range k).flatMap fun i=>Aee (V i)):=by
 obtain ⟨V,hV⟩:=Classical.axiomOfChoice (r:=fun i (v:V4)=>i < 4→A3p (ty i) v∧Ev PG f_l1_Make [nI (rC ty xs i),nI (rD xs i), .str s] (.agg (Aee v))) (fun i=>by
  by_cases h:i < 4
  ·obtain ⟨e1,e2⟩:=A9t ty xs i (hty i h)
   obtain ⟨N,S,st,a1,a2⟩:=A4h (rC ty xs i) (rD xs i) s e2 (A8r xs i) hs
   rw [e1] at a1 a2
   exact ⟨(ty i,N,(S:Int),st.data.toList),fun _=>⟨.inr ⟨N,S,st,rfl,a1⟩,a2⟩⟩
  ·exact ⟨(0,0,0,[]),fun h'=>absurd h' h⟩)
 obtain ⟨V0,hV0⟩:=Classical.axiomOfChoice (r:=fun i (v:V4)=>i < 4→A3p (ty i) v∧Ev PG f_l1_Make [nI (w6' (ty i+0)),nI (-100), .str s] (.agg (Aee v))) (fun i=>by
  by_cases h:i < 4
  ·have:=hty i h
   have e0:w6' (ty i+0)=ty i:=by rw [Int.add_zero];exact Go.IntWalk.i64_in _ (by omega)
   obtain ⟨N,S,st,a1,a2⟩:=A4h (ty i) (-100) s (by unfold I64;omega) (by unfold I64;omega) hs
   have e1:ty i % 6=ty i:=by omega
   rw [e1] at a1 a2
   rw [e0]
   exact ⟨(ty i,N,(S:Int),st.data.toList),fun _=>⟨.inr ⟨N,S,st,rfl,a1⟩,a2⟩⟩
  ·exact ⟨(0,0,0,[]),fun h'=>absurd h' h⟩)
 obtain ⟨m,hm⟩:∃ m,m=min xs.length k:=⟨_,rfl⟩
 obtain ⟨b,hb1,hb2,hb3⟩:=A88 m (by omega) (fun i=>decide ((rN xs i).tmod 7 > 0))
 have hb4:b < 2 ^ m:=by
  have:=Nat.div_eq_zero_iff.1 hb2
  rcases this with h|h
  ·have:0 < 2 ^ m:=Nat.two_pow_pos m
   omega
  ·exact h
 have hf:=A7u hmv s nm ty nn key (uq:=uq) (lk:=lk) hk.2 hm hb3 (fun i hi=>(hV i hi).2) (fun i hi=>(hV0 i hi).2)
 have hnu:=A9m hmv s nm ty nn key hu hl V V0
 have hkk:=List.all_eq_true.1 (List.all_eq_true.1 (List.all_eq_true.1 A8w k (by rw [List.mem_range];omega)) m (by rw [List.mem_range];omega)) b (by rw [List.mem_range];exact hb4)
 have hk0:Nat.beq k 0=false:=by
  have:k≠0:=by omega
  cases k with
  | zero=>exact absurd rfl this
  | succ k=>rfl
 rw [hk0,Bool.false_or] at hkk
 obtain ⟨i,s',h1,h2⟩:=A7x hkk
 have hcells:((List.range k).flatMap (A4q m (Amt b))).map (subD (nuL (rL mv xs s nm ty nn key uq lk V V0)))=(List.range k).flatMap fun i=>Aee (A2y m (Amt b) V V0 i):=by
  rw [A5o]
  refine A5g fun i hi=>?_
  rw [List.mem_range] at hi
  have h4:i=0∨i=1∨i=2∨i=3:=by omega
  unfold A4q A2y
  by_cases hlt:i < m
  ·rw [if_pos hlt,if_pos hlt]
   cases Amt b i
   ·rcases h4 with rfl|rfl|rfl|rfl<;>rfl
   ·rcases h4 with rfl|rfl|rfl|rfl<;>rfl
  ·rw [if_neg hlt,if_neg hlt]
   rcases h4 with rfl|rfl|rfl|rfl<;>rfl
 have hpc:∀ c∈((List.range k).flatMap fun i=>Aee (A2y m (Amt b) V V0 i)),c.pure=true∧c.clean=true:=fun c hc=>by
  obtain ⟨i,_,hc⟩:=List.mem_flatMap.1 hc
  simp only [Aee,List.mem_cons,List.not_mem_nil,or_false] at hc
  rcases hc with rfl|rfl|rfl|rfl<;>exact ⟨rfl,rfl⟩
 have hsub:subD (nuL (rL mv xs s nm ty nn key uq lk V V0)) (Amg k)=Amh nm k ty nn key uq lk:=by
  show tabC _ (.slice 3 (subDL _ ((List.range k).map A4o))) _ _ _=_
  have:subDL (nuL (rL mv xs s nm ty nn key uq lk V V0)) ((List.range k).map A4o)=(List.range k).map (Am2 ty nn):=by
   rw [subDL_map,List.map_map]
   refine List.map_congr_left fun i hi=>?_
   rw [List.mem_range] at hi
   have h4:i=0∨i=1∨i=2∨i=3:=by omega
   rcases h4 with rfl|rfl|rfl|rfl<;>rfl
  rw [this];rfl
 have hg:=ints_good hmv
 have hgm:=hg.1
 simp only [Bool.and_eq_true] at hgm
 have:=EvRow.ofD prog_ok hnu (FactsOk.orc hnu hf) h1 h2 (by
  intro p hp
  simp only [List.mem_cons,List.not_mem_nil,or_false] at hp
  rcases hp with rfl|rfl|rfl
  ·refine ⟨?_,?_⟩
   ·unfold argB
    rw [hsub]
    have:=A5n (nm:=nm) (k:=k) (ty:=ty) (nn:=nn) (key:=key) hu hl
    rw [Bool.and_eq_true] at this
    rw [this.1];rfl
   ·rfl
  ·refine ⟨?_,rfl⟩
   show (mv.pure&&mv.one)=true
   rw [hgm.2,hg.2];rfl
  ·exact ⟨rfl,rfl⟩) (fun c hc=>hpc _ (by rw [← hcells];exact List.mem_map_of_mem hc))
 rw [hcells] at this
 refine ⟨A2y m (Amt b) V V0,fun i hi=>?_,?_⟩
 ·unfold A2y
  by_cases hlt:i < m
  ·rw [if_pos hlt]
   cases Amt b i
   ·exact .inl rfl
   ·exact (hV i (by omega)).1
  ·rw [if_neg hlt]
   by_cases h0:i=0
   ·rw [if_pos h0];exact .inl rfl
   ·rw [if_neg h0];exact (hV0 i (by omega)).1
 ·have e : [Amg k,PV.atom 0, .atom 2].map (subD (nuL (rL mv xs s nm ty nn key uq lk V V0)))=[Amh nm k ty nn key uq lk,mv, .str s]:=by
   simp only [List.map_cons,List.map_nil,hsub];rfl
  rw [e] at this
  exact this
open Go Go.RowKit
theorem A73:okR (.bool true) (callF PG noOrc 60 A4f [] [])=true:=by kernel_rfl
theorem A3g:Ev PG A4f [] (.bool true):=by
 have:=Ev.ofD (nu:=nuL []) prog_ok (nuL_okB rfl) (noOrc_ok PG _) (okR_eq A73) (fun p hp=>by simp at hp) rfl rfl
 exact this
open Go Go.RowKit
open Go Go.RowKit
inductive RawT where
 | mk (k n:Int) (s:List UInt8) (nl:Nat) (l:List RawT)
mutual
def RawT.pv:RawT→PV
 | .mk k n s nl l=>.agg [nI k,nI n, .str s,(match nl with|0=>.nilslice|1=>.eslice|_=>.slice 4 (RawT.pvs l))]
def RawT.pvs:List RawT→List PV
 | []=>[]
 | r::l=>RawT.pv r::RawT.pvs l
end
def rawsP (nl:Nat) (l:List RawT):PV:=match nl with|0=>.nilslice|1=>.eslice|_=>.slice 4 (RawT.pvs l)
def RawT.k:RawT→Int | .mk k _ _ _ _=>k
def RawT.n:RawT→Int | .mk _ n _ _ _=>n
def RawT.s:RawT→List UInt8 | .mk _ _ s _ _=>s
def RawT.nl:RawT→Nat | .mk _ _ _ nl _=>nl
def RawT.l:RawT→List RawT | .mk _ _ _ _ l=>l
def nlOk (nl:Nat) (l:List RawT):Prop:=nl < 2→l=[]
abbrev In64 (n:Int):Prop:=-9223372036854775808≤n∧n≤9223372036854775807
mutual
def RawT.ok:RawT→Prop
 | .mk k n _ nl l=>(In64 k∧In64 n)∧nlOk nl l∧RawT.oks l
def RawT.oks:List RawT→Prop
 | []=>True
 | r::l=>RawT.ok r∧RawT.oks l
end
theorem pv_eq (r:RawT):r.pv = .agg [nI r.k,nI r.n, .str r.s,rawsP r.nl r.l]:=by cases r;rfl
theorem pvs_map:∀ l:List RawT,RawT.pvs l=l.map RawT.pv
 | []=>rfl
 | r::l=>by simp only [RawT.pvs,List.map_cons,pvs_map l]
mutual
theorem pv_pure:∀ r:RawT,r.pv.pure=true
 | .mk k n s nl l=>by
  simp only [RawT.pv,PV.pure,PV.pureL]
  have:=pvs_pure l
  split<;>simp [PV.pure,this]
theorem pvs_pure:∀ l:List RawT,PV.pureL (RawT.pvs l)=true
 | []=>rfl
 | r::l=>by simp only [RawT.pvs,PV.pureL,pv_pure r,pvs_pure l,Bool.and_self]
end
theorem raws_good (nl:Nat) (l:List RawT):(rawsP nl l).clean=true∧(rawsP nl l).pure=true∧(rawsP nl l).one=true:=by
 unfold rawsP
 split
 ·exact ⟨rfl,rfl,rfl⟩
 ·exact ⟨rfl,rfl,rfl⟩
 ·exact ⟨rfl,pvs_pure l,rfl⟩
theorem oks_get:∀ {l:List RawT},RawT.oks l→∀ {i:Nat} {r:RawT},l[i]? = some r→r.ok
 | [],_,i,r,h=>by simp at h
 | q::l,h,0,r,hr=>by simp at hr;subst hr;exact h.1
 | q::l,h,i+1,r,hr=>oks_get h.2 (i:=i) (by simpa using hr)
theorem rawLen_ok {nl:Nat} {l:List RawT} (h:nlOk nl l):lenP PG ty_sl_l3_Raw (rawsP nl l)=some (nI l.length):=by
 have hu:PG.underlying ty_sl_l3_Raw=some (.slice ty_l3_Raw):=by kernel_rfl
 unfold lenP
 rw [hu]
 match nl,h with
 | 0,h=>rw [h (by decide)];rfl
 | 1,h=>rw [h (by decide)];rfl
 | nl+2,_ =>
  show some (nI ((RawT.pvs l).length:Nat))=_
  rw [pvs_map,List.length_map]
theorem rawIx_ok {nl:Nat} {l:List RawT} (h:nlOk nl l) {i:Nat} {r:RawT} (hr:l[i]? = some r):indexAddrP PG ty_sl_l3_Raw (rawsP nl l) (nI i)=some (.ref [nI r.k,nI r.n, .str r.s,rawsP r.nl r.l]):=by
 have hu:PG.underlying ty_sl_l3_Raw=some (.slice ty_l3_Raw):=by kernel_rfl
 have hs:sizeP PG ty_l3_Raw=some 4:=by kernel_rfl
 unfold indexAddrP
 rw [hu]
 have hne:¬ nl < 2:=fun hlt=>by rw [h hlt] at hr;simp at hr
 have e:rawsP nl l = .slice 4 (RawT.pvs l):=by
  match nl,hne with
  | 0,hne=>exact absurd (by decide) hne
  | 1,hne=>exact absurd (by decide) hne
  | nl+2,_=>rfl
 rw [e]
 have:(RawT.pvs l)[((i:Nat):Int).toNat]? = some (.agg [nI r.k,nI r.n, .str r.s,rawsP r.nl r.l]):=by
  rw [pvs_map]
  simp [hr,pv_eq]
 simp only [hs,true_and]
 rw [if_pos (by omega),this]
 rfl
def sizeO (rec:List RawT→Int):List RawT→Int→Option Int
 | [],n=>some n
 | x::xs,n=>if n≤16 then (if 100 < x.s.length then none else sizeO rec xs (n+1+rec x.l)) else some n
def sizeM:Nat→List RawT→Int
 | 0,_=>1000
 | d+1,l=>(sizeO (sizeM d) l 0).getD 1000
theorem sizeO_bd {rec:List RawT→Int} {M:Int} (hM:1000≤M) (h:∀ l,0≤rec l∧rec l≤M):∀ (l:List RawT) (n:Int),0≤n→n≤M+17→0≤(sizeO rec l n).getD 1000∧(sizeO rec l n).getD 1000≤M+17
 | [],n,h0,h1=>⟨h0,h1⟩
 | x::xs,n,h0,h1=>by
  unfold sizeO
  have:=h x.l
  split
  ·split
   ·simp only [Option.getD_none];omega
   ·exact sizeO_bd hM h xs _ (by omega) (by omega)
  ·exact ⟨h0,h1⟩
theorem sizeM_bd:∀ (d:Nat) (l:List RawT),0≤sizeM d l∧sizeM d l≤1000+17*d
 | 0,_=>by simp [sizeM]
 | d+1,l=>by
  have:=sizeO_bd (rec:=sizeM d) (M:=1000+17*d) (by omega) (sizeM_bd d) l 0 (by omega) (by omega)
  unfold sizeM
  omega
def szT:List (Nat × PV):=[(0, .atom 0),(1, .atom 1),(5, .atom 2),(6, .atom 3)]
def szA (b:Bool):List Fact:=[.op (.len ty_sl_l3_Raw) [.atom 0] (.atom 4),oI .lss (.atom 3) (.atom 4) (.bool b)]
def szB (q:Bool):List Fact :=
 szA true++[oI .leq (.atom 2) (nI 16) (.bool true), .op (.ix ty_sl_l3_Raw) [.atom 0, .atom 3] (.ref [.atom 5, .atom 6, .atom 7, .atom 8]),oI .add (.atom 2) (nI 1) (.atom 9),oI .add (.atom 1) (nI 1) (.atom 10), .prim f_l3_size [.atom 8, .atom 10] (.atom 11),
  oI .add (.atom 9) (.atom 11) (.atom 12), .op (.len ty_string) [.atom 7] (.atom 13),oI .gtr (.atom 13) (nI 100) (.bool q),oI .add (.atom 3) (nI 1) (.atom 14)]
noncomputable abbrev szRun (fs:List Fact):Option (Ex × St):=execN PG (fOrc noOwn fs) (callF PG (fOrc noOwn fs) 5) ((fOrc noOwn fs).loop f_l3_size) 5 3 (loopAt PG f_l3_size 5) ⟨szT,[]⟩
theorem sz_lone:loneB PG f_l3_size 5=true:=by kernel_rfl
theorem sz_a:runsB (szRun (szA false)) (.exit 0) [(5, .atom 2)] []=true:=by kernel_rfl
theorem sz_b:runsB (szRun (szA true++[oI .leq (.atom 2) (nI 16) (.bool false)])) (.exit 0) [(5, .atom 2)] []=true:=by kernel_rfl
theorem sz_c:runsB (szRun (szB true)) .ret [(4,nI 1000)] []=true:=by kernel_rfl
theorem sz_d:runsB (szRun (szB false)) .normal [(0, .atom 0),(1, .atom 1),(5, .atom 12),(6, .atom 14)] []=true:=by kernel_rfl
theorem w6_id {n:Int} (h0 : -9223372036854775808≤n) (h1:n≤9223372036854775807):w6' n=n:=Go.IntWalk.i64_in _ ⟨h0,h1⟩
theorem subT_sz (a b c d:PV) (l:List PV):subT (nuL (a::b::c::d::l)) szT=[(0,a),(1,b),(5,c),(6,d)]:=rfl
set_option maxRecDepth 20000 in
theorem sz_loop {d:Nat} (hd:d≤7) {dp:Int} (hdp:0≤dp∧dp≤7) (hrec:∀ nl l,nlOk nl l→RawT.oks l→Ev PG f_l3_size [rawsP nl l,nI (dp+1)] (nI (sizeM d l))) {nl:Nat} {l:List RawT} (hn:nlOk nl l) (ho:RawT.oks l) :
  ∀ (xs:List RawT) (i:Nat) (n:Int),l.drop i=xs→(i:Int)≤n→n≤2000 →
   RunsR PG (ntOf PG f_l3_size) (loopAt PG f_l3_size 5) [(0,rawsP nl l),(1,nI dp),(5,nI n),(6,nI i)] [] (match sizeO (sizeM d) xs n with|some _=>.exit 0|none=>.ret) (match sizeO (sizeM d) xs n with|some m=>[(5,nI m)]|none=>[(4,nI 1000)]) []:=by
 intro xs
 have hg:=raws_good nl l
 have hgc:(rawsP nl l).clean=true:=hg.1
 induction xs with
 | nil =>
  intro i n hi h1 h2
  have hlen:l.length≤i:=by
   have:=congrArg List.length hi
   simp at this;omega
  have hge:¬ ((i:Nat):Int) < (l.length:Int):=by omega
  refine RunsR.leave ?_ (fun h=>by cases h)
  have hnu:NuOk (nuL [rawsP nl l,nI dp,nI n,nI i,nI l.length]):=nuL_okB (by simp only [List.all_cons,hg.1,hg.2.1];rfl)
  refine RunsP.chk prog_ok hnu (T:=szT) (s:=[]) (T':=[(5, .atom 2)]) (s':=[]) sz_lone sz_a ⟨?_,?_,trivial⟩ ?_ rfl rfl
  ·exact ⟨rawLen_ok hn,rfl⟩
  ·exact fCmp (c:=false) (a:=i) (b:=l.length) rfl rfl rfl (by simp only [intP];rw [decide_eq_false hge]) (by decide) rfl
  ·rw [subT_sz]
   show (((rawsP nl l).pure&&_)&&((rawsP nl l).one&&_))=true
   rw [hg.2.1,hg.2.2];rfl
 | cons x xs ih =>
  intro i n hi h1 h2
  have hx:l[i]? = some x:=by
   have:=congrArg (fun z=>z[0]?) hi
   simpa using this
  have hil:i < l.length:=(List.getElem?_eq_some_iff.1 hx).1
  have hxs:l.drop (i+1)=xs:=by
   have:=congrArg List.tail hi
   simpa using this
  have hlt:((i:Nat):Int) < (l.length:Int):=by omega
  unfold sizeO
  by_cases h16:n≤16
  ·rw [if_pos h16]
   have hok:=oks_get ho hx
   have hgx:=raws_good x.nl x.l
   have hxo:nlOk x.nl x.l∧RawT.oks x.l:=by cases x;exact hok.2
   have hcall:=hrec x.nl x.l hxo.1 hxo.2
   have hb:=sizeM_bd d x.l
   have e1:w6' (n+1)=n+1:=w6_id (by omega) (by omega)
   have e2:w6' (dp+1)=dp+1:=w6_id (by omega) (by omega)
   have e3:w6' (n+1+sizeM d x.l)=n+1+sizeM d x.l:=w6_id (by omega) (by omega)
   have e4:w6' ((i:Int)+1)=((i+1:Nat):Int):=by rw [w6_id (by omega) (by omega)];omega
   have hnu:NuOk (nuL [rawsP nl l,nI dp,nI n,nI i,nI l.length,nI x.k,nI x.n, .str x.s,rawsP x.nl x.l,nI (n+1),nI (dp+1),nI (sizeM d x.l),nI (n+1+sizeM d x.l),nI x.s.length,nI (i+1:Nat)]) :=
    nuL_okB (by simp only [List.all_cons,hg.1,hg.2.1,hgx.1,hgx.2.1];rfl)
   have hfacts:∀ q,decide (((x.s.length:Nat):Int) > 100)=q→FactsOk PG (nuL [rawsP nl l,nI dp,nI n,nI i,nI l.length,nI x.k,nI x.n, .str x.s,rawsP x.nl x.l,nI (n+1),nI (dp+1),nI (sizeM d x.l),nI (n+1+sizeM d x.l),nI x.s.length,nI (i+1:Nat)]) (szB q):=fun q hq=>by
    unfold szB szA
    refine ⟨⟨rawLen_ok hn,rfl⟩,?_,?_,⟨?_,?_⟩,?_,?_,?_,?_,⟨?_,rfl⟩,?_,?_,trivial⟩
    ·exact fCmp (c:=true) (a:=i) (b:=l.length) rfl rfl rfl (by simp only [intP];rw [decide_eq_true hlt]) (by decide) rfl
    ·exact fCmp (c:=true) (a:=n) (b:=16) rfl rfl rfl (by simp only [intP];rw [decide_eq_true h16]) (by decide) rfl
    ·exact rawIx_ok hn hx
    ·rfl
    ·exact fInt (a:=n) (b:=1) rfl rfl rfl (by simp only [intP];rw [show IntKind.i64.wrap (n+1)=_ from e1]) (by decide) rfl
    ·exact fInt (a:=dp) (b:=1) rfl rfl rfl (by simp only [intP];rw [show IntKind.i64.wrap (dp+1)=_ from e2]) (by decide) rfl
    ·exact fprim hcall rfl rfl rfl
    ·exact fInt (a:=n+1) (b:=sizeM d x.l) rfl rfl rfl (by simp only [intP];rw [show IntKind.i64.wrap (n+1+sizeM d x.l)=_ from e3]) (by decide) rfl
    ·show lenP PG ty_string (.str x.s)=some (nI x.s.length)
     have hu:PG.underlying ty_string=some .string:=by kernel_rfl
     unfold lenP
     rw [hu]
    ·exact fCmp (c:=q) (a:=x.s.length) (b:=100) rfl rfl rfl (by simp only [intP];rw [hq]) (by decide) rfl
    ·exact fInt (a:=i) (b:=1) rfl rfl rfl (by simp only [intP];rw [show IntKind.i64.wrap ((i:Int)+1)=_ from e4]) (by decide) rfl
   have hT:∀ {nu:Nat→PV},nu 0=rawsP nl l→nu 1=nI dp→nu 2=nI n→nu 3=nI i→(pureT (subT nu szT)&&oneT nu szT)=true:=fun {nu} a0 a1 a2 a3=>by
    show (((nu 0).pure&&((nu 1).pure&&((nu 2).pure&&((nu 3).pure&&true))))&&((nu 0).one&&((nu 1).one&&((nu 2).one&&((nu 3).one&&true)))))=true
    rw [a0,a1,a2,a3,hg.2.1,hg.2.2];rfl
   by_cases h100:100 < x.s.length
   ·rw [if_pos h100]
    refine RunsR.leave ?_ (fun h=>by cases h)
    exact RunsP.chk prog_ok hnu (T:=szT) (s:=[]) (T':=[(4,nI 1000)]) (s':=[]) sz_lone sz_c (hfacts true (by simp;omega)) (hT rfl rfl rfl rfl) rfl rfl
   ·rw [if_neg h100]
    refine RunsR.round ?_ (ih (i+1) (n+1+sizeM d x.l) hxs (by omega) (by omega))
    refine RunsP.chk prog_ok hnu (T:=szT) (s:=[]) (T':=[(0, .atom 0),(1, .atom 1),(5, .atom 12),(6, .atom 14)]) (s':=[]) sz_lone sz_d (hfacts false (by simp;omega)) (hT rfl rfl rfl rfl) rfl ?_
    show (((rawsP nl l).pure&&_)&&_)=true
    rw [hg.2.1];rfl
  ·rw [if_neg h16]
   refine RunsR.leave ?_ (fun h=>by cases h)
   have hnu:NuOk (nuL [rawsP nl l,nI dp,nI n,nI i,nI l.length]):=nuL_okB (by simp only [List.all_cons,hg.1,hg.2.1];rfl)
   refine RunsP.chk prog_ok hnu (T:=szT) (s:=[]) (T':=[(5, .atom 2)]) (s':=[]) sz_lone sz_b ⟨⟨rawLen_ok hn,rfl⟩,?_,?_,trivial⟩ ?_ rfl rfl
   ·exact fCmp (c:=true) (a:=i) (b:=l.length) rfl rfl rfl (by simp only [intP];rw [decide_eq_true hlt]) (by decide) rfl
   ·exact fCmp (c:=false) (a:=n) (b:=16) rfl rfl rfl (by simp only [intP];rw [decide_eq_false h16]) (by decide) rfl
   ·rw [subT_sz]
    show (((rawsP nl l).pure&&_)&&((rawsP nl l).one&&_))=true
    rw [hg.2.1,hg.2.2];rfl
theorem sz_k0:okR (nI 1000) (callF PG (fOrc noOwn [oI .gtr (.atom 1) (nI 6) (.bool true)]) 5 f_l3_size [.atom 0, .atom 1] [])=true:=by kernel_rfl
theorem sz_k1:okR (.atom 2) (callF PG (fOrc noOwn [oI .gtr (.atom 1) (nI 6) (.bool false), .loop f_l3_size 5 [(0, .atom 0),(1, .atom 1),(5,nI 0),(6,nI 0)] [] (.exit 0) [(5, .atom 2)] []]) 5 f_l3_size [.atom 0, .atom 1] [])=true:=by kernel_rfl
theorem sz_k2:okR (nI 1000) (callF PG (fOrc noOwn [oI .gtr (.atom 1) (nI 6) (.bool false), .loop f_l3_size 5 [(0, .atom 0),(1, .atom 1),(5,nI 0),(6,nI 0)] [] .ret [(4,nI 1000)] []]) 5 f_l3_size [.atom 0, .atom 1] [])=true:=by kernel_rfl
set_option maxRecDepth 20000 in
theorem size_ev:∀ (d:Nat),d≤7→∀ nl l,nlOk nl l→RawT.oks l→Ev PG f_l3_size [rawsP nl l,nI (7 - d)] (nI (sizeM d l))
 | 0,_,nl,l,hn,ho=>by
  have hg:=raws_good nl l
  refine Ev.facts prog_ok (nuL_okB (l:=[rawsP nl l,nI 7]) (by simp only [List.all_cons,hg.1,hg.2.1];rfl)) (okR_eq sz_k0) ⟨fCmp (c:=true) (a:=7) (b:=6) rfl rfl rfl rfl (by decide) rfl,trivial⟩ ?_ rfl
  show (((rawsP nl l).pure&&(rawsP nl l).one)&&true&&_)=true
  rw [hg.2.1,hg.2.2];rfl
 | d+1,hd,nl,l,hn,ho=>by
  have hg:=raws_good nl l
  have hrec:∀ nl l,nlOk nl l→RawT.oks l→Ev PG f_l3_size [rawsP nl l,nI ((7 - ((d+1:Nat):Int))+1)] (nI (sizeM d l)):=fun nl l h1 h2=>by
   have:=size_ev d (by omega) nl l h1 h2
   rw [show (7 - ((d+1:Nat):Int))+1=7 - (d:Int) by omega]
   exact this
  have hloop:=sz_loop (d:=d) (by omega) (dp:=7 - ((d+1:Nat):Int)) (by omega) hrec hn ho l 0 0 rfl (by decide) (by decide)
  have hgt:¬ (7 - ((d+1:Nat):Int)) > 6:=by omega
  unfold sizeM
  cases hs:sizeO (sizeM d) l 0 with
  | some m =>
   rw [hs] at hloop
   refine Ev.facts prog_ok (nuL_okB (l:=[rawsP nl l,nI (7 - ((d+1:Nat):Int)),nI m]) (by simp only [List.all_cons,hg.1,hg.2.1];rfl)) (okR_eq sz_k1)
    ⟨fCmp (c:=false) (a:=7 - ((d+1:Nat):Int)) (b:=6) rfl rfl rfl (by simp only [intP];rw [decide_eq_false hgt]) (by decide) rfl,fLoopOk sz_lone (Nat.le_refl _) hloop rfl,trivial⟩ ?_ rfl
   show (((rawsP nl l).pure&&(rawsP nl l).one)&&true&&_)=true
   rw [hg.2.1,hg.2.2];rfl
  | none =>
   rw [hs] at hloop
   refine Ev.facts prog_ok (nuL_okB (l:=[rawsP nl l,nI (7 - ((d+1:Nat):Int))]) (by simp only [List.all_cons,hg.1,hg.2.1];rfl)) (okR_eq sz_k2)
    ⟨fCmp (c:=false) (a:=7 - ((d+1:Nat):Int)) (b:=6) rfl rfl rfl (by simp only [intP];rw [decide_eq_false hgt]) (by decide) rfl,fLoopOk sz_lone (Nat.le_refl _) hloop rfl,trivial⟩ ?_ rfl
   show (((rawsP nl l).pure&&(rawsP nl l).one)&&true&&_)=true
   rw [hg.2.1,hg.2.2];rfl
open Go Go.RowKit
open Go.ChangeShapes Go.WideShapes Go.Joins
theorem flat4_get {α β:Type} (f:α→List β):∀ (l:List α),(∀ a∈l,(f a).length=4)→∀ j,(l.flatMap f)[j]? = (l[j / 4]?).bind fun a=>(f a)[j % 4]?
 | [],_,j=>by simp
 | a::l,h,j=>by
  have ha:=h a (by simp)
  rw [List.flatMap_cons]
  by_cases hj:j < 4
  ·rw [List.getElem?_append_left (by omega)]
   have e1:j / 4=0:=by omega
   have e2:j % 4=j:=by omega
   rw [e1,e2];rfl
  ·rw [List.getElem?_append_right (by omega),ha,flat4_get f l (fun b hb=>h b (by simp [hb])) (j - 4)]
   have e1:j / 4=(j - 4) / 4+1:=by omega
   have e2:(j - 4) % 4=j % 4:=by omega
   rw [e1,e2];rfl
theorem cell_spot {w:World} {a:Addr} {v:Value} (h:w.cell? a=some v):a.spot=none:=by
 unfold World.cell? at h
 split at h
 ·split at h
  ·cases h
  ·rename_i hs
   simpa using hs
 ·cases h
theorem cells4 {w:World} {a:Addr} {cs:List Value} (h:w.cells? 0 a 4=some cs):∃ c0 c1 c2 c3,cs=[c0,c1,c2,c3]∧w.cell? a=some c0∧w.cell? (a.add 1)=some c1∧w.cell? (a.add 2)=some c2∧w.cell? (a.add 3)=some c3:=by
 obtain ⟨_,hl,hc⟩:=World.cells?_some h
 match cs,hl with
 | [c0,c1,c2,c3],_ =>
  exact ⟨c0,c1,c2,c3,rfl,by simpa [Addr.add] using hc 0 (by decide),by simpa using hc 1 (by decide),by simpa using hc 2 (by decide),by simpa using hc 3 (by decide)⟩
theorem wf64 {n:Int} (h:(Lit.int .i64 n).wf=true):In64 n:=bounds_i64 h
def rawUndB (k:Option TypeDesc):Bool:=match k with
 | some (.struct fs)=>match fs.toList with
  | [f0,f1,f2,f3]=>Nat.beq f0.type ty_int&&(Nat.beq f0.offset 0&&(Nat.beq f1.type ty_int&&(Nat.beq f1.offset 1&&(Nat.beq f2.type ty_string&&(Nat.beq f2.offset 2&&(Nat.beq f3.type ty_sl_l3_Raw&&Nat.beq f3.offset 3))))))
  | _=>false
 | _=>false
theorem rawUnd_k:rawUndB (PG.underlying ty_l3_Raw)=true:=by kernel_rfl
theorem rawUnd:∃ f0 f1 f2 f3:Field,PG.underlying ty_l3_Raw=some (.struct #[f0,f1,f2,f3])∧(f0.type=ty_int∧f0.offset=0)∧(f1.type=ty_int∧f1.offset=1)∧(f2.type=ty_string∧f2.offset=2)∧(f3.type=ty_sl_l3_Raw∧f3.offset=3):=by
 have h:=rawUnd_k
 generalize PG.underlying ty_l3_Raw=k at h
 unfold rawUndB at h
 split at h
 ·rename_i fs
  split at h
  ·rename_i f0 f1 f2 f3 hl
   simp only [Bool.and_eq_true,Nat.beq_eq] at h
   obtain ⟨a1,a2,a3,a4,a5,a6,a7,a8⟩:=h
   have:fs = #[f0,f1,f2,f3]:=by
    rw [← Array.toArray_toList (xs:=fs),hl]
   rw [this]
   exact ⟨f0,f1,f2,f3,rfl,⟨a1,a2⟩,⟨a3,a4⟩,⟨a5,a6⟩,a7,a8⟩
  ·cases h
 ·cases h
theorem u_slRaw:PG.underlying ty_sl_l3_Raw=some (.slice ty_l3_Raw):=by kernel_rfl
theorem u_int:PG.underlying ty_int=some (.int .i64):=by kernel_rfl
theorem u_string:PG.underlying ty_string=some .string:=by kernel_rfl
theorem c_Raw:PG.cellsOf ty_l3_Raw=4:=by kernel_rfl
theorem c_int:PG.cellsOf ty_int=1:=by kernel_rfl
theorem c_string:PG.cellsOf ty_string=1:=by kernel_rfl
theorem c_slRaw:PG.cellsOf ty_sl_l3_Raw=1:=by kernel_rfl
structure RawAt (W:World) (r:RawT) (c:Nat→Value):Prop where
 ok:r.ok
 c0:c 0 = .int .i64 r.k
 c1:c 1 = .int .i64 r.n
 c2:c 2 = .string ⟨r.s.toArray⟩
 c3:R (worldMap W) (rawsP r.nl r.l) (c 3)∧(c 3).oneCell'=true
theorem rawAt_cell {W:World} {r:RawT} {c:Nat→Value} (h:RawAt W r c) {j:Nat} {p:PV} (hp:r.pv.cellsD[j]? = some p):R (worldMap W) p (c j)∧(c j).oneCell'=true∧p.clean=true:=by
 rw [pv_eq] at hp
 match j,hp with
 | 0,hp=>cases hp;rw [h.c0];exact ⟨.int _ _,rfl,rfl⟩
 | 1,hp=>cases hp;rw [h.c1];exact ⟨.int _ _,rfl,rfl⟩
 | 2,hp=>cases hp;rw [h.c2];exact ⟨.str ⟨r.s.toArray⟩,rfl,rfl⟩
 | 3,hp=>cases hp;exact ⟨h.c3.1,h.c3.2,(raws_good _ _).1⟩
theorem oks_of:∀ {l:List RawT},(∀ r∈l,r.ok)→RawT.oks l
 | [],_=>trivial
 | r::l,h=>⟨h r (by simp),oks_of fun q hq=>h q (by simp [hq])⟩
theorem raws_trod {H:Type} {enc:TypeId × Value→H} {W:World}:∀ (fuel:Nat) (cs:List Value) (x:DataW H × List MemPlace),DataW.trod enc PG W 0 (fun _=>true) true fuel ty_sl_l3_Raw cs=some x →
  ∃ nl l v,cs=[v]∧nlOk nl l∧RawT.oks l∧R (worldMap W) (rawsP nl l) v∧v.oneCell'=true:=by
 intro fuel
 induction fuel using Nat.strongRecOn with
 | _ fuel ih =>
  intro cs x h
  rcases DataW.trod_slice u_slRaw h with ⟨rfl,_⟩|⟨a,len,cap,elems,rest,n,hfuel,rfl,rfl,_,hl,hm,hlen,hel,hsp,_⟩
  ·exact ⟨0,[],_,rfl,fun _=>rfl,trivial, .nilslice,rfl⟩
  ·by_cases hcap:cap=0
   ·have:len=0:=by omega
    subst this hcap
    exact ⟨1,[],_,rfl,fun _=>rfl,trivial, .eslice a,rfl⟩
   ·have hspot:a.spot=none:=by
     by_cases h0:0 < len
     ·have h1:=hel 0 h0
      rw [List.getElem?_eq_getElem (by omega),Option.bind_eq_some_iff] at h1
      obtain ⟨c4,hc4,_⟩:=h1
      rw [c_Raw] at hc4
      obtain ⟨_,_,_,_,_,hc,_⟩:=cells4 hc4
      have:=cell_spot hc
      simpa [Addr.add] using this
     ·obtain ⟨hr,h1⟩:=hsp rfl
      have h1:=h1 0 (by omega)
      rw [List.getElem?_eq_getElem (by omega),Option.bind_eq_some_iff] at h1
      obtain ⟨c4,hc4,_⟩:=h1
      rw [c_Raw] at hc4
      obtain ⟨_,_,_,_,_,hc,_⟩:=cells4 hc4
      have:=cell_spot hc
      have e:len=0:=by omega
      subst e
      simpa [Addr.add] using this
    obtain ⟨b,o,sp⟩:=a
    simp only at hspot
    subst hspot
    obtain ⟨f0,f1,f2,f3,hu,⟨t0,o0⟩,⟨t1,o1⟩,⟨t2,o2⟩,t3,o3⟩:=rawUnd
    have each:∀ i,∃ (q:RawT × (Nat→Value)),i < len→RawAt W q.1 q.2∧∀ j,j < 4→W.cell? ⟨b,o+(i*4+j),none⟩=some (q.2 j):=fun i=>by
     by_cases hi:i < len
     ·have h1:=hel i hi
      rw [List.getElem?_eq_getElem (by omega),Option.bind_eq_some_iff] at h1
      obtain ⟨c4,hc4,ht⟩:=h1
      rw [c_Raw] at hc4
      obtain ⟨c0,c1,c2,c3,rfl,k0,k1,k2,k3⟩:=cells4 hc4
      obtain ⟨ys,m,hm',_,_,_,hfx⟩:=DataW.trod_struct hu ht
      have s0:=hfx 0 f0 rfl
      have s1:=hfx 1 f1 rfl
      have s2:=hfx 2 f2 rfl
      have s3:=hfx 3 f3 rfl
      rename_i hys
      have hy:ys.length=4:=hys
      rw [t0,o0,c_int,List.getElem?_eq_getElem (by omega)] at s0
      rw [t1,o1,c_int,List.getElem?_eq_getElem (by omega)] at s1
      rw [t2,o2,c_string,List.getElem?_eq_getElem (by omega)] at s2
      rw [t3,o3,c_slRaw,List.getElem?_eq_getElem (by omega)] at s3
      obtain ⟨kk,e0,_,w0⟩:=DataW.trod_int u_int s0
      obtain ⟨nn,e1,_,w1⟩:=DataW.trod_int u_int s1
      obtain ⟨ss,e2,_,_⟩:=DataW.trod_string u_string s2
      have hmf:m < fuel:=by omega
      obtain ⟨nl,l,v,e3,g1,g2,g3,g4⟩:=ih m hmf _ _ s3
      simp at e0 e1 e2 e3
      subst e0 e1 e2 e3
      refine ⟨(.mk kk nn ss.data.toList nl l,fun j=>[Value.int .i64 kk, .int .i64 nn, .string ss,c3].getD j Go.undef),fun _=>⟨⟨⟨⟨wf64 w0,wf64 w1⟩,g1,g2⟩,rfl,rfl,rfl,g3,g4⟩,fun j hj=>?_⟩⟩
      have hj4:j=0∨j=1∨j=2∨j=3:=by omega
      rw [add_plain] at k0 k1 k2 k3
      rcases hj4 with rfl|rfl|rfl|rfl
      ·exact k0
      ·exact k1
      ·exact k2
      ·exact k3
     ·exact ⟨(.mk 0 0 [] 0 [],fun _=>Go.undef),fun h=>absurd h hi⟩
    obtain ⟨q,hq⟩:=Classical.axiomOfChoice each
    have hlen':((List.range len).map fun i=>(q i).1).length=len:=by simp
    refine ⟨2,(List.range len).map (fun i=>(q i).1),_,rfl,fun h=>absurd h (by decide),oks_of fun r hr=>?_,?_,rfl⟩
    ·obtain ⟨i,hi,rfl⟩:=List.mem_map.1 hr
     rw [List.mem_range] at hi
     exact (hq i hi).1.ok
    ·have hget:∀ j p,((RawT.pvs ((List.range len).map fun i=>(q i).1)).flatMap PV.cellsD)[j]? = some p→j / 4 < len∧(q (j / 4)).1.pv.cellsD[j % 4]? = some p:=fun j p hp=>by
      rw [pvs_map,flat4_get PV.cellsD _ (fun a ha=>by
       obtain ⟨r,_,rfl⟩:=List.mem_map.1 ha
       rw [pv_eq];rfl)] at hp
      rw [List.getElem?_map,List.getElem?_map] at hp
      by_cases hj:j / 4 < len
      ·rw [List.getElem?_range hj] at hp
       exact ⟨hj,hp⟩
      ·rw [List.getElem?_eq_none (by simp;omega)] at hp
       cases hp
     have:=R.slice (X:=worldMap W) 4 (RawT.pvs ((List.range len).map fun i=>(q i).1)) b o cap (fun j=>(q (j / 4)).2 (j % 4)) (fun p hp=>by
      rw [pvs_map] at hp
      obtain ⟨r,_,rfl⟩:=List.mem_map.1 hp
      rw [pv_eq];rfl) (by decide) (by rw [pvs_map];simp;exact hl)
      (fun j p hp=>by
       obtain ⟨hj,_⟩:=hget j p hp
       have:=(hq (j / 4) hj).2 (j % 4) (by omega)
       rw [show j / 4*4+j % 4=j by omega] at this
       exact this)
      (fun j p hp=>by
       obtain ⟨hj,hp'⟩:=hget j p hp
       exact (rawAt_cell (hq (j / 4) hj).1 hp').1)
      (fun j p hp=>by
       obtain ⟨hj,hp'⟩:=hget j p hp
       exact (rawAt_cell (hq (j / 4) hj).1 hp').2)
     rw [pvs_map,List.length_map,hlen'] at this
     show R (worldMap W) (.slice 4 (RawT.pvs _)) _
     rw [pvs_map]
     exact this
set_option maxRecDepth 20000 in
theorem raws_arg {H:Type} {enc:TypeId × Value→H} {W:World} {base:Nat} {v:Value} {d:DataW H} {p:List MemPlace} (hv:Value.okWide PG W .any base ty_sl_l3_Raw v) (h:DataW.Trod enc PG W 0 (fun _=>true) true ty_sl_l3_Raw v d p) :
  ∃ nl l,nlOk nl l∧RawT.oks l∧R (worldMap W) (rawsP nl l) v:=by
 obtain ⟨a0,len0,cap0,rfl⟩:=okWide_slice u_slRaw hv
 obtain ⟨fuel,hf⟩:=h
 obtain ⟨nl,l,v,e,h1,h2,h3,_⟩:=raws_trod fuel _ _ hf
 simp [Value.cells] at e
 subst e
 exact ⟨nl,l,h1,h2,h3⟩
open Go Go.RowKit
open Go.Proofs.Ytglffgneikoeaaa.M
theorem few_k (b:Bool):callF PG (fOrc noOwn [.prim f_l3_size [.atom 0,nI 0] (.atom 1),oI .leq (.atom 1) (nI 16) (.bool b)]) 5 f_l3_Few [.atom 0] []=some (.bool b,[]):=by cases b<;>kernel_rfl
def fewB (l:List RawT):Bool:=decide (sizeM 7 l≤16)
theorem few_ev (nl:Nat) (l:List RawT) (hn:nlOk nl l) (ho:RawT.oks l):Ev PG f_l3_Few [rawsP nl l] (.bool (fewB l)):=by
 have hg:=raws_good nl l
 have hs:Ev PG f_l3_size [rawsP nl l,nI 0] (nI (sizeM 7 l)):=size_ev 7 (by decide) nl l hn ho
 refine Ev.facts prog_ok (nuL_okB (l:=[rawsP nl l,nI (sizeM 7 l)]) (by simp only [List.all_cons,hg.1,hg.2.1];rfl)) (few_k (fewB l)) ⟨fprim hs rfl rfl rfl,fCmp rfl rfl rfl rfl (by decide) rfl,trivial⟩ ?_ rfl
 show (((rawsP nl l).pure&&(rawsP nl l).one)&&true&&_)=true
 rw [hg.2.1,hg.2.2];rfl
open Go Go.RowKit
open Go.Proofs.Ytglffgneikoeaaa.M
open Go Go.RowKit
open Go.Proofs.Ytglffgneikoeaaa.M
def MV (v:V4):Prop:=∃ (S:Nat) (st:ByteArray),v.2.2.1=(S:Int)∧v.2.2.2=st.data.toList∧Made v.1 v.2.1 S st
def vV (v:V4):PV:=.agg (Aee v)
def bsA (v:V4):ByteArray:=⟨v.2.2.2.toArray⟩
theorem A4i (a b:Int):cmpI a b = -1∨cmpI a b=0∨cmpI a b=1:=by unfold cmpI;split<;>(try split)<;>simp
theorem A76 (a b:ByteArray):cmpT a b = -1∨cmpT a b=0∨cmpT a b=1:=by unfold cmpT;split<;>(try split)<;>simp
theorem A75 (k1 n1 s1:Int) (t1:ByteArray) (k2 n2 s2:Int) (t2:ByteArray):ordB k1 n1 s1 t1 k2 n2 s2 t2 = -1∨ordB k1 n1 s1 t1 k2 n2 s2 t2=0∨ordB k1 n1 s1 t1 k2 n2 s2 t2=1:=by
 unfold ordB
 split
 ·split
  ·exact A4i _ _
  ·split
   ·exact A4i _ _
   ·exact A76 _ _
 ·exact A4i _ _
def A9s (k n:Int) (s:Nat):Prop:=k=3→s≤6∧-1000000000000000 < n∧n < 1000000000000000
def knB (a b:V4):Bool:=a.1==b.1&&a.1 != 0
def ltB (a b:V4):Bool:=knB a b&&decide (ordB a.1 a.2.1 a.2.2.1 (bsA a) b.1 b.2.1 b.2.2.1 (bsA b) < 0)
def A1j (a b:V4):Bool:=knB a b&&(ordB a.1 a.2.1 a.2.2.1 (bsA a) b.1 b.2.1 b.2.2.1 (bsA b)==0)
theorem A06 {X:Map} {v:V4} {u:Value} (h:R X (vV v) u):u = .agg #[.int .i64 v.1, .int .i64 v.2.1, .int .i64 v.2.2.1, .string (bsA v)]:=by
 obtain ⟨vs,rfl,hs,hr⟩:∃ vs,u = .agg vs∧vs.size=4∧∀ (j:Nat) c,(Aee v)[j]? = some c→R X c (vs.getD j Go.undef):=by
  cases h with
  | agg cs vs h1 h2 h3=>exact ⟨vs,rfl,h1,h2⟩
 obtain ⟨l⟩:=vs
 match l,hs with
 | [a,b,c,d],_ =>
  have h0:=(hr 0 _ rfl).int_inv
  have h1:=(hr 1 _ rfl).int_inv
  have h2:=(hr 2 _ rfl).int_inv
  have h3:=(hr 3 _ rfl).str_inv
  simp at h0 h1 h2 h3
  subst h0 h1 h2 h3
  rfl
theorem MV.well {v:V4} (h:MV v):∃ S:Nat,v.2.2.1=(S:Int)∧A9s v.1 v.2.1 S∧RV v.1 v.2.1 S:=by
 obtain ⟨S,st,h1,h2,m⟩:=h
 exact ⟨S,h1,fun e=>⟨(m.v.d e).sc,(m.v.d e).lo,(m.v.d e).hi⟩,m.v⟩
def knF (s z:Bool):List Fact:=[oI .eql (.atom 0) (.atom 4) (.bool s),oI .neq (.atom 0) (nI 0) (.bool z)]
def v4A (b:Nat):PV:=.agg [.atom b, .atom (b+1), .atom (b+2), .atom (b+3)]
def odF (c:Int):List Fact:=[.prim A5b [v4A 0,v4A 4] (nI c), .prim A5e [v4A 0,v4A 4] (nI c)]
noncomputable abbrev lsK (g:Nat) (s z:Bool) (c:Int) (r:Bool):Bool:=okR (.tup [.bool r, .bool (s&&z)]) (callF PG (fOrc noOwn (knF s z++odF c)) 20 g [v4A 0,v4A 4] [])
theorem A91:(bl fun s=>bl fun z=>([-1,0,1]:List Int).all fun c=>(lsK A3e s z c ((s&&z)&&decide (c < 0))&&lsK A3h s z c ((s&&z)&&decide (c < 0)))&&(lsK A3d s z c ((s&&z)&&(c==0))&&lsK A3f s z c ((s&&z)&&(c==0))))=true:=by kernel_rfl
section
variable {a b:V4} (ha:MV a) (hb:MV b)
include ha hb
theorem A7s:Ev PG A5b [vV a,vV b] (nI (ordB a.1 a.2.1 a.2.2.1 (bsA a) b.1 b.2.1 b.2.2.1 (bsA b))):=by
 obtain ⟨S,e1,w1,_⟩:=ha.well
 obtain ⟨T,e2,w2,_⟩:=hb.well
 refine Ev.ofCalls (fn_of _ (by kernel_rfl)) fun X w vs a1 a2 a3=>?_
 obtain ⟨u,v,rfl,r1,r2⟩:=vs_two a1 a2
 rw [A06 r1,A06 r2]
 refine (Aem.calls 60 a.1 a.2.1 a.2.2.1 (bsA a) b.1 b.2.1 b.2.2.1 (bsA b) _ w (by
  rw [e1,e2];exact A7k 60 _ _ _ _ _ _ _ _ (by decide) w1 w2)).mono ?_
 rintro e w' ⟨he,bel⟩
 exact ⟨⟨_,he,by rw [e1,e2];exact .int _ _⟩,bel⟩
theorem A7t:Ev PG A5e [vV a,vV b] (nI (ordB a.1 a.2.1 a.2.2.1 (bsA a) b.1 b.2.1 b.2.2.1 (bsA b))):=by
 obtain ⟨S,e1,w1,_⟩:=ha.well
 obtain ⟨T,e2,w2,_⟩:=hb.well
 refine Ev.ofCalls (fn_of _ (by kernel_rfl)) fun X w vs a1 a2 a3=>?_
 obtain ⟨u,v,rfl,r1,r2⟩:=vs_two a1 a2
 rw [A06 r1,A06 r2]
 refine (Amo.calls 60 a.1 a.2.1 a.2.2.1 (bsA a) b.1 b.2.1 b.2.2.1 (bsA b) _ w (by
  rw [e1,e2];exact A7f 60 _ _ _ _ _ _ _ _ (by decide) w1 w2)).mono ?_
 rintro e w' ⟨he,bel⟩
 exact ⟨⟨_,he,by rw [e1,e2];exact .int _ _⟩,bel⟩
theorem A3t {g:Nat} {r:Bool} (hk:lsK g (a.1==b.1) (a.1 != 0) (ordB a.1 a.2.1 a.2.2.1 (bsA a) b.1 b.2.1 b.2.2.1 (bsA b)) r=true):Ev PG g [vV a,vV b] (.tup [.bool r, .bool (knB a b)]) :=
 Ev.facts (nu:=nuL (Aee a++Aee b)) (args:=[v4A 0,v4A 4]) (r:=.tup [.bool r, .bool (knB a b)]) prog_ok (nuL_okB rfl) (okR_eq hk)
  ⟨fCmp (a:=a.1) (b:=b.1) (c:=a.1==b.1) rfl rfl rfl rfl (by decide) rfl,fCmp (a:=a.1) (b:=0) (c:=a.1 != 0) rfl rfl rfl rfl (by decide) rfl,fprim (A7s ha hb) rfl rfl rfl,fprim (A7t ha hb) rfl rfl rfl,trivial⟩ rfl rfl
omit ha hb in
theorem A3r (a b:V4):(lsK A3e (a.1==b.1) (a.1 != 0) (ordB a.1 a.2.1 a.2.2.1 (bsA a) b.1 b.2.1 b.2.2.1 (bsA b)) (ltB a b)=true∧lsK A3h (a.1==b.1) (a.1 != 0) (ordB a.1 a.2.1 a.2.2.1 (bsA a) b.1 b.2.1 b.2.2.1 (bsA b)) (ltB a b)=true) ∧
  (lsK A3d (a.1==b.1) (a.1 != 0) (ordB a.1 a.2.1 a.2.2.1 (bsA a) b.1 b.2.1 b.2.2.1 (bsA b)) (A1j a b)=true∧lsK A3f (a.1==b.1) (a.1 != 0) (ordB a.1 a.2.1 a.2.2.1 (bsA a) b.1 b.2.1 b.2.2.1 (bsA b)) (A1j a b)=true):=by
 have hm:ordB a.1 a.2.1 a.2.2.1 (bsA a) b.1 b.2.1 b.2.2.1 (bsA b)∈([-1,0,1]:List Int):=by
  have:=A75 a.1 a.2.1 a.2.2.1 (bsA a) b.1 b.2.1 b.2.2.1 (bsA b)
  simpa using this
 have h:=List.all_eq_true.1 (bl_all (bl_all A91 (a.1==b.1)) (a.1 != 0)) _ hm
 simp only [Bool.and_eq_true] at h
 exact h
theorem A71:Ev PG A3e [vV a,vV b] (.tup [.bool (ltB a b), .bool (knB a b)]):=A3t ha hb (A3r a b).1.1
theorem A77:Ev PG A3h [vV a,vV b] (.tup [.bool (ltB a b), .bool (knB a b)]):=A3t ha hb (A3r a b).1.2
theorem A72:Ev PG A3d [vV a,vV b] (.tup [.bool (A1j a b), .bool (knB a b)]):=A3t ha hb (A3r a b).2.1
theorem A7y:Ev PG A3f [vV a,vV b] (.tup [.bool (A1j a b), .bool (knB a b)]):=A3t ha hb (A3r a b).2.2
end
def Amz (op:Int) (a b:V4):Int × Int × Int × ByteArray × Int:=reckB op a.1 a.2.1 a.2.2.1.toNat b.1 b.2.1 b.2.2.1.toNat
def v5 (r:Int × Int × Int × ByteArray × Int):V4:=(r.1,r.2.1,r.2.2.1,r.2.2.2.1.data.toList)
theorem A6p (X:Map) (r:Int × Int × Int × ByteArray × Int):R X (.tup [vV (v5 r),nI r.2.2.2.2]) (.tuple #[.agg #[.int .i64 r.1, .int .i64 r.2.1, .int .i64 r.2.2.1, .string r.2.2.2.1], .int .i64 r.2.2.2.2]):=.tup _ _ rfl (fun j c hc=>by
 match j,hc with
 | 0,hc=>cases hc;exact R_val X _ _ _ _
 | 1,hc=>cases hc;exact .int _ _)
section
variable {a b:V4} (ha:MV a) (hb:MV b)
include ha hb
theorem A3i (op:Int):Ev PG A3c [nI op,vV a,vV b] (.tup [vV (v5 (Amz op a b)),nI (Amz op a b).2.2.2.2]):=by
 obtain ⟨S,e1,_,w1⟩:=ha.well
 obtain ⟨T,e2,_,w2⟩:=hb.well
 refine Ev.ofCalls (fn_of _ (by kernel_rfl)) fun X w vs a1 a2 a3=>?_
 obtain ⟨u,v,x,rfl,r1,r2,r3⟩:=vs_three a1 a2
 rw [r1.int_inv,A06 r2,A06 r3]
 obtain ⟨r,hr⟩:∃ r,r=Amz op a b:=⟨_,rfl⟩
 rw [← hr]
 refine (Ad5.calls 120 op a.1 a.2.1 a.2.2.1 (bsA a) b.1 b.2.1 b.2.2.1 (bsA b) r.1 r.2.1 r.2.2.1 r.2.2.2.1 r.2.2.2.2 w (by
  rw [hr,e1,e2,A7d 120 op a.1 a.2.1 S (bsA a) b.1 b.2.1 T (bsA b) (by decide) w1 w2]
  unfold Amz;rw [e1,e2,Int.toNat_natCast,Int.toNat_natCast])).mono ?_
 rintro e w' ⟨he,bel⟩
 exact ⟨⟨_,he,A6p X r⟩,bel⟩
theorem A5m (op:Int):Ev PG A4c [nI op,vV a,vV b] (.tup [vV (v5 (Amz op a b)),nI (Amz op a b).2.2.2.2]):=by
 obtain ⟨S,e1,_,w1⟩:=ha.well
 obtain ⟨T,e2,_,w2⟩:=hb.well
 refine Ev.ofCalls (fn_of _ (by kernel_rfl)) fun X w vs a1 a2 a3=>?_
 obtain ⟨u,v,x,rfl,r1,r2,r3⟩:=vs_three a1 a2
 rw [r1.int_inv,A06 r2,A06 r3]
 obtain ⟨r,hr⟩:∃ r,r=Amz op a b:=⟨_,rfl⟩
 rw [← hr]
 refine (Ad1.calls 120 op a.1 a.2.1 a.2.2.1 (bsA a) b.1 b.2.1 b.2.2.1 (bsA b) r.1 r.2.1 r.2.2.1 r.2.2.2.1 r.2.2.2.2 w (by
  rw [hr,e1,e2,A7c 120 op a.1 a.2.1 S (bsA a) b.1 b.2.1 T (bsA b) (by decide) w1 w2]
  unfold Amz;rw [e1,e2,Int.toNat_natCast,Int.toNat_natCast])).mono ?_
 rintro e w' ⟨he,bel⟩
 exact ⟨⟨_,he,A6p X r⟩,bel⟩
end
def A1g (k1:Int) (r:Int × Int × Int × ByteArray × Int):Prop:=(r.2.2.2.2=0∧MV (v5 r)∧(r.1=0∨r.1=k1))∨((r.2.2.2.2=5∨r.2.2.2.2=10)∧v5 r=(0,0,0,[]))
theorem A2x:MV (0,0,0,[]):=⟨0,⟨#[]⟩,rfl,rfl,⟨by decide +kernel,RV_zero 0,by decide,by decide,by decide,fun _=>rfl⟩⟩
theorem A74 (k:Int):A1g k nullR:=.inl ⟨rfl,A2x, .inl rfl⟩
theorem A5r (k:Int):A1g k typeR:=.inr ⟨.inl rfl,rfl⟩
theorem A4g (k:Int):A1g k overR:=.inr ⟨.inr rfl,rfl⟩
theorem A8b (op a b:Int):A1g 2 (intRes op a b):=by
 unfold intRes
 split
 ·rename_i h
  refine .inl ⟨rfl,⟨0,⟨#[]⟩,rfl,rfl,?_⟩, .inr rfl⟩
  have hi:I64 (exactly op a b):=by unfold inI at h;unfold I64;exact of_decide_eq_true h
  show Made 2 (exactly op a b) 0 ⟨#[]⟩
  refine ⟨?_,⟨hi,fun e=>absurd e (by decide)⟩,by decide,by decide,by decide,fun _=>rfl⟩
  unfold rightB;rw [if_neg (by decide),if_neg (by decide),if_pos rfl,noS_empty];rfl
 ·exact A4g 2
theorem A5w (n:Int) (s:Nat):A1g 3 (decRes n s):=by
 unfold decRes
 split
 ·rename_i c
  refine .inl ⟨rfl,⟨(red n s).2,⟨#[]⟩,rfl,rfl,?_⟩, .inr rfl⟩
  have hr:rightB 3 (red n s).1 ((red n s).2:Int) (⟨#[]⟩:ByteArray)=true:=by rw [right_red,decide_eq_true c]
  show Made 3 (red n s).1 (red n s).2 ⟨#[]⟩
  exact ⟨hr,RV_right (by have:=c.1;have:=c.2.1;unfold I64;omega) hr,by decide,by decide,by decide,fun e=>absurd rfl e⟩
 ·exact A4g 3
theorem A5z (op k1 n1:Int) (s1:Nat) (k2 n2:Int) (s2:Nat):A1g k1 (reckRes op k1 n1 s1 k2 n2 s2):=by
 unfold reckRes
 by_cases hk:(op=6∨op=7∨op=8)∧num k1=true∧num k2=true
 ·rw [if_pos hk]
  by_cases h0:k1=0∨k2=0
  ·rw [if_pos h0];exact A74 _
  rw [if_neg h0]
  by_cases he:k1=k2
  ·rw [if_pos he]
   by_cases h2:k1=2
   ·rw [if_pos h2];subst h2;exact A8b _ _ _
   ·rw [if_neg h2]
    have h3:k1=3:=by
     have:=hk.2.1
     unfold num at this
     simp at this
     omega
    subst h3
    unfold decsRes
    split
    ·split
     ·exact A5w _ _
     ·exact A4g 3
    ·exact A5w _ _
  ·rw [if_neg he];exact A5r _
 ·rw [if_neg hk];exact A5r _
theorem A5p (op:Int) (a b:V4):A1g a.1 (Amz op a b):=by
 unfold Amz reckB
 split
 ·exact A5z _ _ _ _ _ _ _
 ·exact A5z _ _ _ _ _ _ _
open Go Go.RowKit
open Go.Proofs.Ytglffgneikoeaaa.M
structure E7 where
 k:PV
 nm:PV
 v0:PV
 v1:PV
 v2:PV
 v3:PV
 l:PV
def E7.L (r:E7):List PV:=[r.k,r.nm,r.v0,r.v1,r.v2,r.v3,r.l]
def E7.pv (r:E7):PV:=.agg r.L
def E7.ok (r:E7):Bool:=r.L.all fun p=>p.clean&&p.pure
def exA (k nm v0 v1 v2 v3 l:PV):PV:=.agg [k,nm,v0,v1,v2,v3,l]
def eA (j:Nat):PV:=exA (.atom (j+0)) (.atom (j+1)) (.atom (j+2)) (.atom (j+3)) (.atom (j+4)) (.atom (j+5)) (.atom (j+6))
def E7.zero:E7:=⟨nI 0, .str [],nI 0,nI 0,nI 0, .str [], .nilslice⟩
def E7.un (k:Int) (r:E7):E7:=⟨nI k, .str [],nI 0,nI 0,nI 0, .str [], .slice 7 [r.pv]⟩
def E7.col (w:List UInt8):E7:=⟨nI 2, .str w,nI 0,nI 0,nI 0, .str [], .nilslice⟩
theorem E7.pure {r:E7} (h:r.ok=true):r.pv.pure=true:=by
 simp only [E7.ok,E7.L,List.all_cons,List.all_nil,Bool.and_eq_true,Bool.and_true] at h
 simp only [E7.pv,E7.L,PV.pure,PV.pureL,h,Bool.and_self]
theorem E7.un_ok {k:Int} {r:E7} (h:r.ok=true):(E7.un k r).ok=true:=by
 have:=E7.pure h
 simp only [E7.un,E7.ok,E7.L,List.all_cons,List.all_nil,PV.clean,PV.pure,PV.pureL,this,Bool.and_self]
def E7.lit (v:V4):E7:=⟨nI 1, .str [],nI v.1,nI v.2.1,nI v.2.2.1, .str v.2.2.2, .nilslice⟩
def E7.bin (k:Int) (a b:E7):E7:=⟨nI k, .str [],nI 0,nI 0,nI 0, .str [], .slice 7 [a.pv,b.pv]⟩
theorem E7.bin_ok {k:Int} {a b:E7} (ha:a.ok=true) (hb:b.ok=true):(E7.bin k a b).ok=true:=by
 have h1:=E7.pure ha
 have h2:=E7.pure hb
 simp only [E7.bin,E7.ok,E7.L,List.all_cons,List.all_nil,PV.clean,PV.pure,PV.pureL,h1,h2,Bool.and_self]
def unA (k:Int):PV:=exA (nI k) (.str []) (nI 0) (nI 0) (nI 0) (.str []) (.slice 7 [eA 30])
def biA (k:Int):PV:=exA (nI k) (.str []) (nI 0) (nI 0) (nI 0) (.str []) (.slice 7 [eA 30,eA 60])
inductive Xe where
 | lit (v:V4)
 | col (c:Nat)
 | un (k:Nat) (a:Xe)
 | op (i:Nat) (a b:Xe)
def cnX (c:Nat):List UInt8:=[UInt8.ofNat (97+c)]
def Xe.e7:Xe→E7
 | .lit v=>E7.lit v
 | .col c=>E7.col (cnX c)
 | .un k a=>E7.un ((3+k:Nat):Int) a.e7
 | .op i a b=>E7.bin ((6+i:Nat):Int) a.e7 b.e7
def Xe.wf:Xe→Prop
 | .lit v=>MV v
 | .col c=>c < 6
 | .un k a=>k < 3∧a.wf
 | .op i a b=>i < 9∧a.wf∧b.wf
theorem e7_ok:∀ (e:Xe),e.e7.ok=true
 | .lit _=>rfl
 | .col _=>rfl
 | .un _ a=>E7.un_ok (e7_ok a)
 | .op _ a b=>E7.bin_ok (e7_ok a) (e7_ok b)
def v0:V4:=(0,0,0,[])
theorem A8z {n:Int} (hn : -9223372036854775808≤n∧n≤9223372036854775807):MV (2,n,0,[]):=by
 refine ⟨0,⟨#[]⟩,rfl,rfl,?_⟩
 show Made 2 n 0 ⟨#[]⟩
 refine ⟨?_,⟨hn,fun e=>absurd e (by decide)⟩,by decide,by decide,by decide,fun _=>rfl⟩
 unfold rightB;rw [if_neg (by decide),if_neg (by decide),if_pos rfl,noS_empty];rfl
def rA:PV:=.agg [.atom 0, .atom 1, .atom 2, .atom 3]
noncomputable abbrev mkR (k:Nat) (r:PV) (fs:List Fact):Bool:=okR r (callF PG (fOrc noOwn (.prim f_l3_within [.atom 0,nI 20] (nI k)::fs)) 20 f_l3_Raw_Make [rA] [])
def mkL:List Fact:=[oI .quo (.atom 1) (nI 7) (.atom 5), .prim f_l1_Make [.atom 1, .atom 5, .atom 2] (.agg [.atom 6, .atom 7, .atom 8, .atom 9])]
theorem mk_lit:((List.range 5).all fun k=>mkR k (exA (nI 1) (.str []) (.atom 6) (.atom 7) (.atom 8) (.atom 9) .nilslice) mkL)=true:=by kernel_rfl
def colsL:List (List UInt8):=[[97],[98],[99],[100],[101],[102]]
theorem mk_col:((List.range 4).all fun k=>(List.range 6).all fun c=>mkR (5+k) (exA (nI 2) (.str (colsL.getD c [])) (nI 0) (nI 0) (nI 0) (.str []) .nilslice) [.prim f_l3_within [.atom 1,nI 6] (nI c)])=true:=by kernel_rfl
theorem mk_un:((List.range 3).all fun k=>mkR (9+k) (unA ((3+k:Nat):Int)) [.prim f_l3_Raw_part [rA,nI 0] (eA 30)])=true:=by kernel_rfl
theorem mk_bin:((List.range 8).all fun k=>(List.range 9).all fun i=>mkR (12+k) (biA ((6+i:Nat):Int)) [oI .add (.atom 1) (nI (12+k:Nat)) (.atom 10), .prim f_l3_within [.atom 10,nI 9] (nI i), .prim f_l3_Raw_part [rA,nI 0] (eA 30), .prim f_l3_Raw_part [rA,nI 1] (eA 60)])=true:=by kernel_rfl
def paL (b:Bool) (i:Nat):List Fact:=[.op (.len ty_sl_l3_Raw) [.atom 3] (.atom 11),oI .lss (nI i) (.atom 11) (.bool b)]
theorem pa_k1:((List.range 2).all fun i=>okR (eA 30) (callF PG (fOrc noOwn (paL true i++[.op (.ix ty_sl_l3_Raw) [.atom 3,nI i] (.ref [.atom 12, .atom 13, .atom 14, .atom 15]), .prim f_l3_Raw_Make [.agg [.atom 12, .atom 13, .atom 14, .atom 15]] (eA 30)])) 20 f_l3_Raw_part [rA,nI i] []))=true:=by kernel_rfl
theorem pa_k2:((List.range 2).all fun i=>(List.range 5).all fun c=>okR (exA (nI 1) (.str []) (nI 2) (nI ((c:Int) - 2)) (nI 0) (.str []) .nilslice) (callF PG (fOrc noOwn (paL false i++[oI .add (.atom 1) (nI i) (.atom 10), .prim f_l3_within [.atom 10,nI 5] (nI c)])) 20 f_l3_Raw_part [rA,nI i] []))=true:=by kernel_rfl
theorem sizeO_le {rec:List RawT→Int} (h0:∀ l,0≤rec l):∀ (l:List RawT) (n m:Int),sizeO rec l n=some m→n≤m
 | [],n,m,h=>by cases h;omega
 | x::xs,n,m,h=>by
  unfold sizeO at h
  split at h
  ·split at h
   ·cases h
   ·have:=sizeO_le h0 xs _ _ h
    have:=h0 x.l
    omega
  ·cases h;omega
theorem sizeO_few {rec:List RawT→Int} (h0:∀ l,0≤rec l):∀ (l:List RawT) (n:Int),(sizeO rec l n).getD 1000≤16→0≤n→∀ x∈l,x.s.length≤100∧rec x.l≤16
 | [],_,_,_=>by simp
 | x::xs,n,h,hn=>by
  unfold sizeO at h
  split at h
  ·split at h
   ·simp at h
   ·intro y hy
    cases hs:sizeO rec xs (n+1+rec x.l) with
    | none=>rw [hs] at h;simp at h
    | some m =>
     have h1:=h
     rw [hs] at h1
     simp only [Option.getD_some] at h1
     have h2:=sizeO_le h0 xs _ _ hs
     have:=h0 x.l
     rcases List.mem_cons.1 hy with rfl|hy
     ·exact ⟨by omega,by omega⟩
     ·exact sizeO_few h0 xs _ h (by omega) y hy
  ·simp only [Option.getD_some] at h
   omega
theorem sizeM_few {d:Nat} {l:List RawT} (h:sizeM d l≤16):∃ d',d=d'+1∧∀ x∈l,x.s.length≤100∧sizeM d' x.l≤16:=by
 cases d with
 | zero=>simp [sizeM] at h
 | succ d'=>exact ⟨d',rfl,fun x hx=>sizeO_few (fun l=>(sizeM_bd d' l).1) l 0 h (by decide) x hx⟩
def mkNu (r:RawT) (v:V4) (q:Int) (n11:PV) (x:RawT) (e f:E7):List PV:=[nI r.k,nI r.n, .str r.s,rawsP r.nl r.l,nI 0,nI (w6' (r.n.tdiv 7)),nI v.1,nI v.2.1,nI v.2.2.1, .str v.2.2.2,nI q,n11,nI x.k,nI x.n, .str x.s,rawsP x.nl x.l]++(List.replicate 14 (nI 0)++(e.L++(List.replicate 23 (nI 0)++f.L)))
theorem mkNu_ok {r:RawT} {v:V4} {q n11:Int} {x:RawT} {e f:E7} (he:e.ok=true) (hf:f.ok=true):NuOk (nuL (mkNu r v q (nI n11) x e f)):=by
 refine nuL_okB ?_
 unfold mkNu
 have h1:=raws_good r.nl r.l
 have h2:=raws_good x.nl x.l
 rw [List.all_append,List.all_append,List.all_append,List.all_append,show (e.L.all fun p=>p.clean&&p.pure)=true from he,show (f.L.all fun p=>p.clean&&p.pure)=true from hf]
 simp only [List.all_cons,h1.1,h1.2.1,h2.1,h2.2.1]
 rfl
theorem raw_arg {nu:Nat→PV} {r:RawT} (h0:nu 0=nI r.k) (h1:nu 1=nI r.n) (h2:nu 2 = .str r.s) (h3:nu 3=rawsP r.nl r.l):subD nu rA=r.pv∧(argB nu rA&&rA.shut)=true:=by
 have e:subD nu rA=r.pv:=by
  show PV.agg [nu 0,nu 1,nu 2,nu 3]=_
  rw [h0,h1,h2,h3,pv_eq]
 refine ⟨e,?_⟩
 show ((subD nu rA).pure&&true&&true)=true
 rw [e,pv_pure];rfl
theorem E7.ps {r:E7} (h:r.ok=true):(r.pv.pure&&r.pv.shut2)=true:=by
 have h1:=E7.pure h
 simp only [E7.ok,E7.L,List.all_cons,List.all_nil,Bool.and_eq_true,Bool.and_true] at h
 rw [h1,Bool.true_and]
 simp [E7.pv,E7.L,PV.shut2,PV.shut,h]
structure MkOk (g:FuncId) (args:List PV) (e:Xe):Prop where
 wf:e.wf
 ev:Ev PG g args e.e7.pv
theorem A7v (c n:Int) (l:List UInt8) (hc:I64 c) (hn:I64 n) (hs:l.length≤140737488351232) :
  ∃ N S st,Made (c % 6) N S st∧Ev PG f_l1_Make [.int .i64 c, .int .i64 n, .str l] (.agg [nI (c % 6),nI N,nI (S:Nat), .str st.data.toList]):=A4h c n l hc hn hs
theorem wthn_nat (a:Int) (n:Nat) (h0:0 < n) (h1:n < 4611686018427387904):∃ k:Nat,wthn a n=k∧k < n:=by
 have:=wthn_range a (n:Int) (by omega) (by omega)
 exact ⟨(wthn a n).toNat,by omega,by omega⟩
theorem wN (n:Int) (m:Int) (h0:0 < m) (h1:m≤1000):∃ k:Nat,wthn n m=k∧(k:Int) < m:=by
 obtain ⟨k,h2,h3⟩:=wthn_nat n m.toNat (by omega) (by omega)
 have e:((m.toNat:Nat):Int)=m:=by omega
 rw [e] at h2
 exact ⟨k,h2,by omega⟩
theorem pow_le (d:Nat):1≤2 ^ d:=Nat.one_le_two_pow
theorem r_ok {r:RawT} (h:r.ok):(In64 r.k∧In64 r.n)∧nlOk r.nl r.l∧RawT.oks r.l:=by cases r;exact h
set_option maxRecDepth 20000 in
theorem part_ev {d:Nat} (ih:∀ r:RawT,r.ok→r.s.length≤100→sizeM d r.l≤16→∃ e,MkOk f_l3_Raw_Make [r.pv] e) {r:RawT} (hr:r.ok) (hf:∀ x∈r.l,x.s.length≤100∧sizeM d x.l≤16) {i:Nat} (hi:i < 2):∃ e,MkOk f_l3_Raw_part [r.pv,nI i] e:=by
 have hro:=r_ok hr
 have hp2:=pow_le d
 have hmem:i∈List.range 2:=by rw [List.mem_range];exact hi
 have hg:∀ (e f:E7),e.ok=true→f.ok=true→∀ q n11 v x,NuOk (nuL (mkNu r v q (nI n11) x e f)):=fun e f he hf q n11 v x=>mkNu_ok he hf
 have hargs:∀ nu:Nat→PV,nu 0=nI r.k→nu 1=nI r.n→nu 2 = .str r.s→nu 3=rawsP r.nl r.l→([rA,nI i].all (fun p=>argB nu p&&p.shut)=true)∧[rA,nI i].map (subD nu)=[r.pv,nI i]:=fun nu h0 h1 h2 h3=>by
  have:=raw_arg h0 h1 h2 h3
  refine ⟨?_,?_⟩
  ·simp only [List.all_cons,this.2];rfl
  ·show [subD nu rA,nI i]=_
   rw [this.1]
 by_cases hil:i < r.l.length
 ·obtain ⟨x,hx⟩:∃ x,r.l[i]? = some x:=⟨_,List.getElem?_eq_getElem hil⟩
  have hxm:=hf x (List.mem_of_getElem? hx)
  obtain ⟨e,he⟩:=ih x (oks_get hro.2.2 hx) hxm.1 hxm.2
  refine ⟨e,he.wf,?_⟩
  have ha:=hargs (nuL (mkNu r v0 0 (nI r.l.length) x e.e7 e.e7)) rfl rfl rfl rfl
  have hev:=he.ev
  rw [pv_eq] at hev
  have:=Ev.facts (nu:=nuL (mkNu r v0 0 (nI r.l.length) x e.e7 e.e7)) (args:=[rA,nI i]) (r:=eA 30) prog_ok (hg _ _ (e7_ok e) (e7_ok e) _ _ _ _) (okR_eq (List.all_eq_true.1 pa_k1 i hmem))
   ⟨⟨rawLen_ok hro.2.1,rfl⟩,fCmp (c:=true) (a:=i) (b:=r.l.length) rfl rfl rfl (by simp only [intP];rw [decide_eq_true (by omega)]) (by decide) rfl,⟨rawIx_ok hro.2.1 hx,rfl⟩,fprim hev rfl rfl rfl,trivial⟩ ha.1
   (E7.ps (e7_ok e))
  rw [ha.2] at this
  exact this
 ·obtain ⟨c,hw,hc⟩:=wN (w6' (r.n+i)) 5 (by decide) (by decide)
  have hn : -9223372036854775808≤((c:Int) - 2)∧((c:Int) - 2)≤9223372036854775807:=by omega
  refine ⟨.lit (2,(c:Int) - 2,0,[]),A8z hn,?_⟩
  ·have ha:=hargs (nuL (mkNu r v0 (w6' (r.n+i)) (nI r.l.length) r E7.zero E7.zero)) rfl rfl rfl rfl
   have hwe:=within3_ev (w6' (r.n+i)) 5 (by decide)
   rw [hw] at hwe
   have:=Ev.facts (nu:=nuL (mkNu r v0 (w6' (r.n+i)) (nI r.l.length) r E7.zero E7.zero)) (args:=[rA,nI i]) prog_ok (hg _ _ rfl rfl _ _ _ _) (okR_eq (List.all_eq_true.1 (List.all_eq_true.1 pa_k2 i hmem) c (by rw [List.mem_range];omega)))
    ⟨⟨rawLen_ok hro.2.1,rfl⟩,fCmp (c:=false) (a:=i) (b:=r.l.length) rfl rfl rfl (by simp only [intP];rw [decide_eq_false (by omega)]) (by decide) rfl,fInt (a:=r.n) (b:=i) rfl rfl rfl rfl (by decide) rfl,fprim hwe rfl rfl rfl,trivial⟩ ha.1 rfl
   rw [ha.2] at this
   exact this
theorem wB:∀ k:Nat,k < 20→k < 5∨(∃ j,j < 4∧k=5+j)∨(∃ j,j < 3∧k=9+j)∨(∃ j,j < 8∧k=12+j):=fun k h=>by
 by_cases h1:k < 5
 ·exact .inl h1
 ·by_cases h2:k < 9
  ·exact .inr (.inl ⟨k - 5,by omega,by omega⟩)
  ·by_cases h3:k < 12
   ·exact .inr (.inr (.inl ⟨k - 9,by omega,by omega⟩))
   ·exact .inr (.inr (.inr ⟨k - 12,by omega,by omega⟩))
set_option maxRecDepth 20000 in
theorem make_ev:∀ (d:Nat) (r:RawT),r.ok→r.s.length≤100→sizeM d r.l≤16→∃ e,MkOk f_l3_Raw_Make [r.pv] e
 | 0,r,_,_,h=>by simp [sizeM] at h
 | d+1,r,hr,hs,h=>by
  obtain ⟨d',hd,hf⟩:=sizeM_few h
  obtain rfl:d=d':=by omega
  have hro:=r_ok hr
  have hp2:=pow_le d
  have hp3:2 ^ (d+1)=2*2 ^ d:=by rw [Nat.pow_succ];omega
  obtain ⟨k,hw,hk⟩:=wN r.k 20 (by decide) (by decide)
  have hwe:=within3_ev r.k 20 (by decide)
  rw [hw] at hwe
  have hargs:∀ nu:Nat→PV,nu 0=nI r.k→nu 1=nI r.n→nu 2 = .str r.s→nu 3=rawsP r.nl r.l→([rA].all (fun p=>argB nu p&&p.shut)=true)∧[rA].map (subD nu)=[r.pv]:=fun nu h0 h1 h2 h3=>by
   have:=raw_arg h0 h1 h2 h3
   refine ⟨?_,?_⟩
   ·simp only [List.all_cons,this.2];rfl
   ·show [subD nu rA]=_
    rw [this.1]
  obtain ⟨a,ha⟩:=part_ev (make_ev d) hr hf (i:=0) (by decide)
  obtain ⟨b,hb⟩:=part_ev (make_ev d) hr hf (i:=1) (by decide)
  have fun1:∀ (e f:E7) (q:Int) (v:V4),[PV.atom 0,nI 20].map (subD (nuL (mkNu r v q (nI 0) r e f)))=[nI r.k,nI 20]:=fun e f q v=>rfl
  have hA:∀ (e f:E7) (q:Int) (v:V4),FactOk PG (nuL (mkNu r v q (nI 0) r e f)) (.prim f_l3_within [.atom 0,nI 20] (nI k)):=fun e f q v=>fprim hwe rfl rfl rfl
  have hP:∀ (q:Int) (v:V4),FactOk PG (nuL (mkNu r v q (nI 0) r a.e7 b.e7)) (.prim f_l3_Raw_part [rA,nI 0] (eA 30))∧FactOk PG (nuL (mkNu r v q (nI 0) r a.e7 b.e7)) (.prim f_l3_Raw_part [rA,nI 1] (eA 60)):=fun q v=>by
   have:=raw_arg (nu:=nuL (mkNu r v q (nI 0) r a.e7 b.e7)) (r:=r) rfl rfl rfl rfl
   exact ⟨fprim ha.ev (by show [subD _ rA,nI 0]=_;rw [this.1];rfl) rfl rfl,fprim hb.ev (by show [subD _ rA,nI 1]=_;rw [this.1];rfl) rfl rfl⟩
  rcases wB k (by omega) with h5|⟨j,hj,rfl⟩|⟨j,hj,rfl⟩|⟨j,hj,rfl⟩
  ·have h7 : -9223372036854775808≤r.n.tdiv 7∧r.n.tdiv 7≤9223372036854775807:=by
    have:=hro.1.2
    have h1:(r.n.tdiv 7).natAbs=r.n.natAbs / 7:=Int.natAbs_tdiv r.n 7
    omega
   have e7:w6' (r.n.tdiv 7)=r.n.tdiv 7:=w6_id h7.1 h7.2
   obtain ⟨N,S,st,hm,he⟩:=A7v r.n (w6' (r.n.tdiv 7)) r.s hro.1.2 (by rw [e7];unfold I64;omega) (by omega)
   refine ⟨.lit (r.n % 6,N,(S:Nat),st.data.toList),⟨S,st,rfl,rfl,hm⟩,?_⟩
   have hh:=hargs (nuL (mkNu r (r.n % 6,N,(S:Nat),st.data.toList) 0 (nI 0) r E7.zero E7.zero)) rfl rfl rfl rfl
   have:=Ev.facts (nu:=nuL (mkNu r (r.n % 6,N,(S:Nat),st.data.toList) 0 (nI 0) r E7.zero E7.zero)) (args:=[rA]) prog_ok (mkNu_ok rfl rfl) (okR_eq (List.all_eq_true.1 mk_lit k (by rw [List.mem_range];exact h5)))
    ⟨hA _ _ _ _,fInt rfl rfl rfl rfl (by decide) rfl,fprim he rfl rfl rfl,trivial⟩ hh.1 rfl
   rw [hh.2] at this
   exact this
  ·obtain ⟨c,hw2,hc⟩:=wN r.n 6 (by decide) (by decide)
   have hwe2:=within3_ev r.n 6 (by decide)
   rw [hw2] at hwe2
   have hcol:∀ c,c < 6→colsL.getD c []=cnX c:=by decide
   refine ⟨.col c,by show c < 6;omega,?_⟩
   ·show Ev PG f_l3_Raw_Make [r.pv] (E7.pv (E7.col (cnX c)))
    rw [← hcol c (by omega)]
    have hh:=hargs (nuL (mkNu r v0 0 (nI 0) r E7.zero E7.zero)) rfl rfl rfl rfl
    have:=Ev.facts (nu:=nuL (mkNu r v0 0 (nI 0) r E7.zero E7.zero)) (args:=[rA]) prog_ok (mkNu_ok rfl rfl) (okR_eq (List.all_eq_true.1 (List.all_eq_true.1 mk_col j (by rw [List.mem_range];exact hj)) c (by rw [List.mem_range];omega)))
     ⟨hA _ _ _ _,fprim hwe2 rfl rfl rfl,trivial⟩ hh.1 rfl
    rw [hh.2] at this
    exact this
  ·have hh:=hargs (nuL (mkNu r v0 0 (nI 0) r a.e7 b.e7)) rfl rfl rfl rfl
   have hev:=Ev.facts (nu:=nuL (mkNu r v0 0 (nI 0) r a.e7 b.e7)) (args:=[rA]) prog_ok (mkNu_ok (e7_ok a) (e7_ok b)) (okR_eq (List.all_eq_true.1 mk_un j (by rw [List.mem_range];exact hj)))
     ⟨hA _ _ _ _,(hP 0 v0).1,trivial⟩ hh.1
     (E7.ps (r:=E7.un ((3+j:Nat):Int) a.e7) (E7.un_ok (e7_ok a)))
   rw [hh.2] at hev
   exact ⟨.un j a,⟨hj,ha.wf⟩,hev⟩
  ·obtain ⟨i,hw2,hi⟩:=wN (w6' (r.n+(12+j:Nat))) 9 (by decide) (by decide)
   have hwe2:=within3_ev (w6' (r.n+(12+j:Nat))) 9 (by decide)
   rw [hw2] at hwe2
   have hh:=hargs (nuL (mkNu r v0 (w6' (r.n+(12+j:Nat))) (nI 0) r a.e7 b.e7)) rfl rfl rfl rfl
   have hev:=Ev.facts (nu:=nuL (mkNu r v0 (w6' (r.n+(12+j:Nat))) (nI 0) r a.e7 b.e7)) (args:=[rA]) prog_ok (mkNu_ok (e7_ok a) (e7_ok b)) (okR_eq (List.all_eq_true.1 (List.all_eq_true.1 mk_bin j (by rw [List.mem_range];exact hj)) i (by rw [List.mem_range];omega)))
     ⟨hA _ _ _ _,fInt (a:=r.n) (b:=(12+j:Nat)) rfl rfl rfl rfl (by decide) rfl,fprim hwe2 rfl rfl rfl,(hP _ v0).1,(hP _ v0).2,trivial⟩ hh.1
     (E7.ps (r:=E7.bin ((6+i:Nat):Int) a.e7 b.e7) (E7.bin_ok (e7_ok a) (e7_ok b)))
   rw [hh.2] at hev
   exact ⟨.op i a b,⟨by omega,ha.wf,hb.wf⟩,hev⟩
def on1 (b:Bool):List Fact:=[.op (.len ty_sl_l3_Raw) [.atom 0] (.atom 1),oI .eql (.atom 1) (nI 0) (.bool b)]
def on2:List Fact:=[.op (.ix ty_sl_l3_Raw) [.atom 0,nI 0] (.ref [.atom 2, .atom 3, .atom 4, .atom 5]), .prim f_l3_Raw_Make [.agg [.atom 2, .atom 3, .atom 4, .atom 5]] (eA 30)]
set_option maxRecDepth 20000 in
theorem one_k1:okR (eA 30) (callF PG (fOrc noOwn (on1 false++on2)) 10 f_l3_One [.atom 0] [])=true:=by kernel_rfl
def oneNu (nl:Nat) (l:List RawT) (r:RawT) (e:E7):List PV:=[rawsP nl l,nI l.length,nI r.k,nI r.n, .str r.s,rawsP r.nl r.l]++(List.replicate 24 (nI 0)++e.L)
set_option maxRecDepth 20000 in
theorem oneNu_ok {nl:Nat} {l:List RawT} {r:RawT} {e:E7} (he:e.ok=true):NuOk (nuL (oneNu nl l r e)):=by
 refine nuL_okB ?_
 unfold oneNu
 have h1:=raws_good nl l
 have h2:=raws_good r.nl r.l
 rw [List.all_append,List.all_append,show (e.L.all fun p=>p.clean&&p.pure)=true from he]
 simp only [List.all_cons,h1.1,h1.2.1,h2.1,h2.2.1]
 rfl
set_option maxRecDepth 20000 in
theorem raws_args {nl:Nat} {l:List RawT} {nu:Nat→PV} (h0:nu 0=rawsP nl l):([PV.atom 0].all fun p=>argB nu p&&p.shut)=true:=by
 have h1:=raws_good nl l
 show (((nu 0).pure&&(nu 0).one)&&true&&true)=true
 rw [h0,h1.2.1,h1.2.2];rfl
set_option maxRecDepth 20000 in
theorem first_some {g:FuncId} (hk:okR (eA 30) (callF PG (fOrc noOwn (on1 false++on2)) 10 g [.atom 0] [])=true) {nl:Nat} {l:List RawT} (hn:nlOk nl l) {r:RawT} (hx:l[0]? = some r) {e:Xe} (h:Ev PG f_l3_Raw_Make [r.pv] e.e7.pv):Ev PG g [rawsP nl l] e.e7.pv:=by
 have hl:l.length≠0:=by
  have:=(List.getElem?_eq_some_iff.1 hx).1
  omega
 rw [pv_eq] at h
 exact Ev.facts (nu:=nuL (oneNu nl l r e.e7)) (args:=[.atom 0]) (r:=eA 30) prog_ok (oneNu_ok (e7_ok e)) (okR_eq hk) ⟨⟨rawLen_ok hn,rfl⟩,fCmp (c:=false) (a:=l.length) (b:=0) rfl rfl rfl (by simp only [intP];simp [hl]) (by decide) rfl,⟨rawIx_ok hn hx,rfl⟩,fprim h rfl rfl rfl,trivial⟩ (raws_args rfl) (E7.ps (e7_ok e))
set_option maxRecDepth 20000 in
theorem few_first {l:List RawT} (ho:RawT.oks l) (h:fewB l=true) {r:RawT} (hx:l[0]? = some r):∃ e:Xe,e.wf∧Ev PG f_l3_Raw_Make [r.pv] e.e7.pv:=by
 simp only [fewB,decide_eq_true_eq] at h
 obtain ⟨d,hd,hf⟩:=sizeM_few h
 obtain rfl:d=6:=by omega
 have:=hf r (List.mem_of_getElem? hx)
 obtain ⟨e,he⟩:=make_ev 6 r (oks_get ho hx) this.1 this.2
 exact ⟨e,he.wf,he.ev⟩
set_option maxRecDepth 20000 in
theorem one_ev {nl:Nat} {l:List RawT} (hn:nlOk nl l) (ho:RawT.oks l) (h:fewB l=true) (hne:l≠[]):∃ e:Xe,e.wf∧Ev PG f_l3_One [rawsP nl l] e.e7.pv:=by
 cases hx:l[0]? with
 | none =>
  have hl:l=[]:=by cases l with|nil=>rfl|cons a l=>simp at hx
  exact absurd hl hne
 | some r =>
  obtain ⟨e,h1,h2⟩:=few_first ho h hx
  exact ⟨e,h1,first_some one_k1 hn hx h2⟩
open Go Go.RowKit
def tbA:PV:=.agg ((List.range 12).map fun i=>.atom i)
def unX (j:Nat) (l:List PV):PV:=exA (nI j) (.str []) (nI 0) (nI 0) (nI 0) (.str []) (.slice 7 l)
def tyF (g:Nat) (b k e:Nat):Fact:=.prim g [tbA,eA b] (.tup [nI k,nI e])
def Aep (kind:Nat) (ks:List Nat):Nat × Nat :=
 let nn:=ks.filter fun k=>!Nat.beq k 0
 let k:=nn.headD 0
 let al:=nn.all fun j=>Nat.beq j k
 match kind with
 | 5=>(1,0)
 | 3|13|14=>if al&&Nat.ble k 1 then (1,0) else (0,5)
 | 9|10|11|12=>if al then (1,0) else (0,5)
 | _=>if al&&(Nat.beq k 0||Nat.beq k 2||Nat.beq k 3) then (k,0) else (0,5)
noncomputable abbrev tyK (g:Nat) (x:PV) (r:Nat × Nat) (fs:List Fact):Bool:=okR (.tup [nI r.1,nI r.2]) (callF PG (fOrc noOwn fs) 30 g [tbA,x] [])
def A2f (f:Nat→Bool):Bool:=f Amx&&f Amy
theorem A9z:(A2f fun g=>(List.range 3).all fun j=>(List.range 6).all fun k=>tyK g (unX (3+j) [eA 30]) (Aep (3+j) [k]) [tyF g 30 k 0])=true:=by kernel_rfl
theorem A9g:(A2f fun g=>(List.range 3).all fun j=>(List.range 2).all fun e=>tyK g (unX (3+j) [eA 30]) (0,4+e) [tyF g 30 0 (4+e)])=true:=by kernel_rfl
noncomputable def opC (g i:Nat):Bool:=(List.range 6).all fun k=>(List.range 6).all fun l=>tyK g (unX (6+i) [eA 30,eA 60]) (Aep (6+i) [k,l]) [tyF g 30 k 0,tyF g 60 l 0]
theorem A9j:(opC Amx 0&&opC Amy 0)=true:=by kernel_rfl
theorem A86:(opC Amx 1&&opC Amy 1)=true:=by kernel_rfl
theorem A8y:(opC Amx 2&&opC Amy 2)=true:=by kernel_rfl
theorem A8t:(opC Amx 3&&opC Amy 3)=true:=by kernel_rfl
theorem A89:(opC Amx 4&&opC Amy 4)=true:=by kernel_rfl
theorem A8x:(opC Amx 5&&opC Amy 5)=true:=by kernel_rfl
theorem A8p:(opC Amx 6&&opC Amy 6)=true:=by kernel_rfl
theorem A9i:(opC Amx 7&&opC Amy 7)=true:=by kernel_rfl
theorem A8s:(opC Amx 8&&opC Amy 8)=true:=by kernel_rfl
theorem A9v:∀ i,i < 9→opC Amx i=true∧opC Amy i=true:=fun i hi=>by
 have h:(opC Amx i&&opC Amy i)=true:=by
  have c:i=0∨i=1∨i=2∨i=3∨i=4∨i=5∨i=6∨i=7∨i=8:=by omega
  rcases c with rfl|rfl|rfl|rfl|rfl|rfl|rfl|rfl|rfl
  ·exact A9j
  ·exact A86
  ·exact A8y
  ·exact A8t
  ·exact A89
  ·exact A8x
  ·exact A8p
  ·exact A9i
  ·exact A8s
 rwa [Bool.and_eq_true] at h
theorem A57:(A2f fun g=>(List.range 9).all fun i=>(List.range 2).all fun e=>tyK g (unX (6+i) [eA 30,eA 60]) (0,4+e) [tyF g 30 0 (4+e)]&&(List.range 6).all fun k=>tyK g (unX (6+i) [eA 30,eA 60]) (0,4+e) [tyF g 30 k 0,tyF g 60 0 (4+e)])=true:=by kernel_rfl
theorem A9d:(A2f fun g=>okR (.tup [.atom 30,nI 0]) (callF PG (fOrc noOwn []) 30 g [tbA,exA (nI 1) (.str []) (.atom 30) (.atom 31) (.atom 32) (.atom 33) .nilslice] []))=true:=by kernel_rfl
def colX (c:Nat):PV:=exA (nI 2) (.str (cnX c)) (nI 0) (nI 0) (nI 0) (.str []) .nilslice
theorem A84:(A2f fun g=>(List.range 5).all fun k=>(List.range 6).all fun c=>okR (.tup (if Nat.blt c k then [.atom (4+c),nI 0] else [nI 0,nI 4])) (callF PG (fOrc noOwn []) 30 g [Amg k,colX c] []))=true:=by kernel_rfl
open Go Go.RowKit
def Xe.ty (ty:Nat→Nat) (nc:Nat):Xe→Nat × Nat
 | .lit v=>(v.1.toNat,0)
 | .col c=>if c < nc then (ty c,0) else (0,4)
 | .un j a=>match a.ty ty nc with|(k,0)=>Aep (3+j) [k]|(_,e)=>(0,e)
 | .op i a b=>match a.ty ty nc with|(k,0)=>(match b.ty ty nc with|(l,0)=>Aep (6+i) [k,l]|(_,e)=>(0,e))|(_,e)=>(0,e)
def tyB (r:Nat × Nat):Bool:=Nat.blt r.1 6&&(Nat.beq r.2 0||((Nat.beq r.2 4||Nat.beq r.2 5)&&Nat.beq r.1 0))
theorem A2e {r:Nat × Nat} (h:tyB r=true):r.1 < 6∧(r.2=0∨((r.2=4∨r.2=5)∧r.1=0)):=by
 simpa [tyB,Nat.blt_eq] using h
theorem A8c:((List.range 3).all fun j=>(List.range 6).all fun k=>tyB (Aep (3+j) [k]))=true:=by decide +kernel
theorem A8f:((List.range 9).all fun i=>(List.range 6).all fun k=>(List.range 6).all fun l=>tyB (Aep (6+i) [k,l]))=true:=by decide +kernel
def tbP (nm:List UInt8) (cl:PV) (key:Int) (uq lk:PV):PV:=tabC (.str nm) cl (nI key) uq lk
def xN (nm:List UInt8) (cl:PV) (key:Int) (uq lk:PV) (a b:E7):List PV :=
 [.str nm,cl,nI key,uq,nI 0, .str [],nI 0,nI 0,nI 0, .str [], .nilslice,lk,nI 0,nI 0,nI 0,nI 0,nI 0,nI 0,nI 0,nI 0,nI 0,nI 0,nI 0,nI 0,nI 0,nI 0,nI 0,nI 0,nI 0,nI 0]++(a.L++([nI 0,nI 0,nI 0,nI 0,nI 0,nI 0,nI 0,nI 0,nI 0,nI 0,nI 0,nI 0,nI 0,nI 0,nI 0,nI 0,nI 0,nI 0,nI 0,nI 0,nI 0,nI 0,nI 0]++b.L))
section
variable {nm:List UInt8} {cl:PV} {key:Int} {uq lk:PV} (hc:Ad3 cl=true) (hu:Ad3 uq=true) (hl:Ad3 lk=true)
include hc hu hl
theorem A6a {a b:E7} (ha:a.ok=true) (hb:b.ok=true):NuOk (nuL (xN nm cl key uq lk a b)):=by
 refine nuL_okB ?_
 simp only [Ad3,Bool.and_eq_true] at hc hu hl
 unfold xN
 rw [List.all_append,List.all_append,List.all_append,show (a.L.all fun p=>p.clean&&p.pure)=true from ha,show (b.L.all fun p=>p.clean&&p.pure)=true from hb]
 simp only [List.all_cons,hc.1,hc.2.1,hu.1,hu.2.1,hl.1,hl.2.1]
 rfl
theorem A3j:(tbP nm cl key uq lk).pure=true:=by
 simp only [Ad3,Bool.and_eq_true] at hc hu hl
 show PV.pureL [PV.str nm,cl,nI key,uq,nI 0, .str [],nI 0,nI 0,nI 0, .str [], .nilslice,lk]=true
 simp only [PV.pureL,hc.2.1,hu.2.1,hl.2.1]
 rfl
theorem A5y {nu:Nat→PV} {x r:PV} (h0:subD nu tbA=tbP nm cl key uq lk) (h1:subD nu x=r) (h2:r.pure=true) (h3:oneB nu tbA=true) (h4:oneB nu x=true) (h5:x.shut=true):([tbA,x].all fun p=>argB nu p&&p.shut)=true:=by
 have hp:=A3j (nm:=nm) (key:=key) hc hu hl
 simp only [List.all_cons,List.all_nil,argB,h0,h1,hp,h2,h3,h4,h5]
 rfl
set_option maxRecDepth 20000 in
theorem A5t {g:Nat} {x:PV} {r:Nat × Nat} {fs:List Fact} (hk:tyK g x r fs=true) {a b:E7} (ha:a.ok=true) (hb:b.ok=true) (hf:FactsOk PG (nuL (xN nm cl key uq lk a b)) fs) {y:PV} (hy:subD (nuL (xN nm cl key uq lk a b)) x=y) (hyp:y.pure=true) (h4:oneB (nuL (xN nm cl key uq lk a b)) x=true) (h5:x.shut=true) :
  Ev PG g [tbP nm cl key uq lk,y] (.tup [nI r.1,nI r.2]):=by
 have h:=Ev.facts (args:=[tbA,x]) (r:=.tup [nI r.1,nI r.2]) prog_ok (A6a (nm:=nm) (key:=key) hc hu hl ha hb) (okR_eq hk) hf (A5y hc hu hl rfl hy hyp rfl h4 h5) rfl
 simp only [List.map_cons,List.map_nil,hy] at h
 exact h
end
structure A3z (tP:PV) (x:PV) (r:Nat × Nat):Prop where
 ev:Ev PG Amx [tP,x] (.tup [nI r.1,nI r.2])
 rf:Ev PG Amy [tP,x] (.tup [nI r.1,nI r.2])
theorem A2o {f:Nat→Bool} (h:A2f f=true):f Amx=true∧f Amy=true:=by
 unfold A2f at h;rwa [Bool.and_eq_true] at h
section
variable {nm:List UInt8} {cl:PV} {key:Int} {uq lk:PV} (hc:Ad3 cl=true) (hu:Ad3 uq=true) (hl:Ad3 lk=true)
include hc hu hl
set_option maxRecDepth 20000 in
theorem A3u {ty:Nat→Nat} {nc:Nat} (hcol:∀ c,c < 6→A3z (tbP nm cl key uq lk) (Xe.col c).e7.pv ((Xe.col c).ty ty nc)∧tyB ((Xe.col c).ty ty nc)=true) :
  ∀ x:Xe,x.wf→A3z (tbP nm cl key uq lk) x.e7.pv (x.ty ty nc)∧tyB (x.ty ty nc)=true
 | .col c,hx=>hcol c hx
 | .lit v,hx=>by
  have hk:=A2o A9d
  obtain ⟨S,st,h1,h2,m⟩:=hx
  have h0:=m.k0
  have h5:=m.k5
  have e:v.1=((v.1.toNat:Nat):Int):=by omega
  have hb:tyB (v.1.toNat,0)=true:=by
   have:v.1.toNat < 6:=by omega
   show (Nat.blt v.1.toNat 6&&_)=true
   rw [show Nat.blt v.1.toNat 6=true from by simpa [Nat.blt_eq] using this];rfl
  refine ⟨?_,hb⟩
  have gen:∀ g,okR (.tup [.atom 30,nI 0]) (callF PG (fOrc noOwn []) 30 g [tbA,exA (nI 1) (.str []) (.atom 30) (.atom 31) (.atom 32) (.atom 33) .nilslice] [])=true→Ev PG g [tbP nm cl key uq lk,(Xe.lit v).e7.pv] (.tup [nI (v.1.toNat:Nat),nI 0]):=fun g hg=>by
   have h:=Ev.facts (nu:=nuL (xN nm cl key uq lk ⟨nI v.1,nI v.2.1,nI v.2.2.1, .str v.2.2.2,nI 0,nI 0,nI 0⟩ E7.zero)) (args:=[tbA,exA (nI 1) (.str []) (.atom 30) (.atom 31) (.atom 32) (.atom 33) .nilslice]) (r:=.tup [.atom 30,nI 0]) prog_ok (A6a (nm:=nm) (key:=key) hc hu hl rfl rfl) (okR_eq hg) trivial
    (A5y (r:=(Xe.lit v).e7.pv) hc hu hl rfl rfl rfl rfl rfl rfl) rfl
   rw [← e]
   exact h
  exact ⟨gen _ hk.1,gen _ hk.2⟩
 | .un j a,hx=>by
  obtain ⟨hj,hw⟩:=hx
  obtain ⟨ha,hb⟩:=A3u hcol a hw
  obtain ⟨b1,b2⟩:=A2e hb
  have hr:(Xe.un j a).ty ty nc=(match a.ty ty nc with|(k,0)=>Aep (3+j) [k]|(_,e)=>(0,e)):=rfl
  obtain ⟨⟨k,e⟩,hr'⟩:∃ p,a.ty ty nc=p:=⟨_,rfl⟩
  rw [hr'] at ha b1 b2 hr
  dsimp only at b1 b2
  have hjm:j∈List.range 3:=by rw [List.mem_range];exact hj
  have hst:∀ (g:Nat) (r:Nat × Nat),tyK g (unX (3+j) [eA 30]) r [tyF g 30 k e]=true→Ev PG g [tbP nm cl key uq lk,a.e7.pv] (.tup [nI k,nI e])→Ev PG g [tbP nm cl key uq lk,(Xe.un j a).e7.pv] (.tup [nI r.1,nI r.2]):=fun g r hk hev =>
   A5t (a:=a.e7) (b:=E7.zero) hc hu hl hk (e7_ok a) rfl ⟨fprim hev rfl rfl rfl,trivial⟩ rfl (E7.pure (E7.un_ok (e7_ok a))) rfl rfl
  rcases b2 with rfl|⟨h45,rfl⟩
  ·have hk:=A2o A9z
   have hkm:k∈List.range 6:=by rw [List.mem_range];exact b1
   have e1:=List.all_eq_true.1 (List.all_eq_true.1 hk.1 j hjm) k hkm
   have e2:=List.all_eq_true.1 (List.all_eq_true.1 hk.2 j hjm) k hkm
   have e3:=List.all_eq_true.1 (List.all_eq_true.1 A8c j hjm) k hkm
   rw [hr]
   exact ⟨⟨hst _ _ e1 ha.ev,hst _ _ e2 ha.rf⟩,e3⟩
  ·have hk:=A2o A9g
   obtain ⟨m,hm,rfl⟩:∃ m,m < 2∧e=4+m:=⟨e - 4,by omega,by omega⟩
   have hmm:m∈List.range 2:=by rw [List.mem_range];exact hm
   have e1:=List.all_eq_true.1 (List.all_eq_true.1 hk.1 j hjm) m hmm
   have e2:=List.all_eq_true.1 (List.all_eq_true.1 hk.2 j hjm) m hmm
   have hr2:(Xe.un j a).ty ty nc=(0,4+m):=by rw [hr];rcases (show m=0∨m=1 by omega) with rfl|rfl<;>rfl
   rw [hr2]
   exact ⟨⟨hst _ _ e1 ha.ev,hst _ _ e2 ha.rf⟩,by rcases (show m=0∨m=1 by omega) with rfl|rfl<;>rfl⟩
 | .op i a b,hx=>by
  obtain ⟨hi,hwa,hwb⟩:=hx
  obtain ⟨ha,hba⟩:=A3u hcol a hwa
  obtain ⟨hb,hbb⟩:=A3u hcol b hwb
  obtain ⟨a1,a2⟩:=A2e hba
  obtain ⟨b1,b2⟩:=A2e hbb
  have hr:(Xe.op i a b).ty ty nc=(match a.ty ty nc with|(k,0)=>(match b.ty ty nc with|(l,0)=>Aep (6+i) [k,l]|(_,e)=>(0,e))|(_,e)=>(0,e)):=rfl
  obtain ⟨⟨k,e⟩,hr1⟩:∃ p,a.ty ty nc=p:=⟨_,rfl⟩
  obtain ⟨⟨l,f⟩,hr2⟩:∃ p,b.ty ty nc=p:=⟨_,rfl⟩
  rw [hr1] at ha a1 a2 hr
  rw [hr2] at hb b1 b2 hr
  dsimp only at a1 a2 b1 b2
  have him:i∈List.range 9:=by rw [List.mem_range];exact hi
  have hst:∀ (g:Nat) (r:Nat × Nat) (fs:List Fact),tyK g (unX (6+i) [eA 30,eA 60]) r fs=true→FactsOk PG (nuL (xN nm cl key uq lk a.e7 b.e7)) fs→Ev PG g [tbP nm cl key uq lk,(Xe.op i a b).e7.pv] (.tup [nI r.1,nI r.2]):=fun g r fs hk hf =>
   A5t hc hu hl hk (e7_ok a) (e7_ok b) hf rfl (E7.pure (E7.bin_ok (e7_ok a) (e7_ok b))) rfl rfl
  have hfa:∀ g,Ev PG g [tbP nm cl key uq lk,a.e7.pv] (.tup [nI k,nI e])→FactOk PG (nuL (xN nm cl key uq lk a.e7 b.e7)) (tyF g 30 k e):=fun g h=>fprim h rfl rfl rfl
  have hfb:∀ g,Ev PG g [tbP nm cl key uq lk,b.e7.pv] (.tup [nI l,nI f])→FactOk PG (nuL (xN nm cl key uq lk a.e7 b.e7)) (tyF g 60 l f):=fun g h=>fprim h rfl rfl rfl
  have hlast:∀ m,m < 2→tyB (0,4+m)=true:=by decide
  rcases a2 with rfl|⟨h45,rfl⟩
  ·have hkm:k∈List.range 6:=by rw [List.mem_range];exact a1
   rcases b2 with rfl|⟨h45,rfl⟩
   ·have hlm:l∈List.range 6:=by rw [List.mem_range];exact b1
    have hk:=A9v i hi
    have e1:=List.all_eq_true.1 (List.all_eq_true.1 hk.1 k hkm) l hlm
    have e2:=List.all_eq_true.1 (List.all_eq_true.1 hk.2 k hkm) l hlm
    have e3:=List.all_eq_true.1 (List.all_eq_true.1 (List.all_eq_true.1 A8f i him) k hkm) l hlm
    rw [hr]
    exact ⟨⟨hst _ _ _ e1 ⟨hfa _ ha.ev,hfb _ hb.ev,trivial⟩,hst _ _ _ e2 ⟨hfa _ ha.rf,hfb _ hb.rf,trivial⟩⟩,e3⟩
   ·have hk:=A2o A57
    obtain ⟨m,hm,rfl⟩:∃ m,m < 2∧f=4+m:=⟨f - 4,by omega,by omega⟩
    have hmm:m∈List.range 2:=by rw [List.mem_range];exact hm
    have e1:=List.all_eq_true.1 (List.all_eq_true.1 hk.1 i him) m hmm
    have e2:=List.all_eq_true.1 (List.all_eq_true.1 hk.2 i him) m hmm
    rw [Bool.and_eq_true] at e1 e2
    have hr3:(Xe.op i a b).ty ty nc=(0,4+m):=by rw [hr];rcases (show m=0∨m=1 by omega) with rfl|rfl<;>rfl
    rw [hr3]
    exact ⟨⟨hst _ _ _ (List.all_eq_true.1 e1.2 k hkm) ⟨hfa _ ha.ev,hfb _ hb.ev,trivial⟩,hst _ _ _ (List.all_eq_true.1 e2.2 k hkm) ⟨hfa _ ha.rf,hfb _ hb.rf,trivial⟩⟩,hlast m hm⟩
  ·have hk:=A2o A57
   obtain ⟨m,hm,rfl⟩:∃ m,m < 2∧e=4+m:=⟨e - 4,by omega,by omega⟩
   have hmm:m∈List.range 2:=by rw [List.mem_range];exact hm
   have e1:=List.all_eq_true.1 (List.all_eq_true.1 hk.1 i him) m hmm
   have e2:=List.all_eq_true.1 (List.all_eq_true.1 hk.2 i him) m hmm
   rw [Bool.and_eq_true] at e1 e2
   have hr3:(Xe.op i a b).ty ty nc=(0,4+m):=by rw [hr];rcases (show m=0∨m=1 by omega) with rfl|rfl<;>rfl
   rw [hr3]
   exact ⟨⟨hst _ _ _ e1.1 ⟨hfa _ ha.ev,trivial⟩,hst _ _ _ e2.1 ⟨hfa _ ha.rf,trivial⟩⟩,hlast m hm⟩
end
open Go Go.RowKit
section
variable {nm:List UInt8} {ty:Nat→Int} {nn:Nat→Bool} {key:Nat} {uq lk:PV}
def tcN (nm:List UInt8) (ty:Nat→Int) (nn:Nat→Bool) (key:Nat) (uq lk:PV):List PV :=
 [nI 0,nI 0,nI 0, .str nm,nI (ty 0),nI (ty 1),nI (ty 2),nI (ty 3), .bool (nn 0), .bool (nn 1), .bool (nn 2), .bool (nn 3),nI key,uq,lk]
theorem A59 (hu:Ad3 uq=true) (hl:Ad3 lk=true):NuOk (nuL (tcN nm ty nn key uq lk)):=by
 simp only [Ad3,Bool.and_eq_true] at hu hl
 refine nuL_okB ?_
 unfold tcN
 simp only [List.all_cons,List.all_nil,hu.1,hu.2.1,hl.1,hl.2.1]
 rfl
theorem A8g (k:Nat):PV.pureL ((List.range k).map (Am2 ty nn))=true:=by
 refine pureL_of fun p hp=>?_
 obtain ⟨i,_,rfl⟩:=List.mem_map.1 hp
 rfl
theorem A4l (k:Nat):Ad3 (.slice 3 ((List.range k).map (Am2 ty nn)))=true:=by
 show (true&&(PV.pureL ((List.range k).map (Am2 ty nn))&&true))=true
 rw [A8g];rfl
theorem A4j {k:Nat} (hk:1≤k∧k≤4):subD (nuL (tcN nm ty nn key uq lk)) (Amg k)=Amh nm k ty nn key uq lk:=by
 have c:k=1∨k=2∨k=3∨k=4:=by omega
 rcases c with rfl|rfl|rfl|rfl<;>rfl
theorem A8d (hu:Ad3 uq=true) (hl:Ad3 lk=true) (hty:∀ i,i < 4→1≤ty i∧ty i≤5) {k:Nat} (hk:1≤k∧k≤4) {c:Nat} (hc:c < 6):A3z (Amh nm k ty nn key uq lk) (Xe.col c).e7.pv ((Xe.col c).ty (fun i=>(ty i).toNat) k)∧tyB ((Xe.col c).ty (fun i=>(ty i).toNat) k)=true:=by
 have h:=A2o A84
 have hkm:k∈List.range 5:=by rw [List.mem_range];omega
 have hcm:c∈List.range 6:=by rw [List.mem_range];exact hc
 have hpure:(Amh nm k ty nn key uq lk).pure=true:=A3j (nm:=nm) (key:=key) (A4l (ty:=ty) (nn:=nn) k) hu hl
 have hone:oneB (nuL (tcN nm ty nn key uq lk)) (Amg k)=true:=by
  have c:k=1∨k=2∨k=3∨k=4:=by omega
  rcases c with rfl|rfl|rfl|rfl<;>rfl
 have hshut:(Amg k).shut=true:=rfl
 have hargs:([Amg k,colX c].all fun p=>argB (nuL (tcN nm ty nn key uq lk)) p&&p.shut)=true:=by
  have h1:argB (nuL (tcN nm ty nn key uq lk)) (Amg k)=true:=by
   unfold argB
   rw [A4j hk,hpure,hone];rfl
  simp only [List.all_cons,List.all_nil,h1,hshut]
  rfl
 by_cases hlt:c < k
 ·have hb:Nat.blt c k=true:=by simpa [Nat.blt_eq] using hlt
  have ht:=hty c (by omega)
  have e:ty c=(((ty c).toNat:Nat):Int):=by omega
  have hr:(Xe.col c).ty (fun i=>(ty i).toNat) k=((ty c).toNat,0):=if_pos hlt
  have gen:∀ g,okR (.tup (if Nat.blt c k then [.atom (4+c),nI 0] else [nI 0,nI 4])) (callF PG (fOrc noOwn []) 30 g [Amg k,colX c] [])=true→Ev PG g [Amh nm k ty nn key uq lk,(Xe.col c).e7.pv] (.tup [nI ((ty c).toNat:Nat),nI 0]):=fun g hg=>by
   rw [if_pos hb] at hg
   have hsub:subD (nuL (tcN nm ty nn key uq lk)) (.atom (4+c))=nI (ty c):=by
    have:c=0∨c=1∨c=2∨c=3:=by omega
    rcases this with rfl|rfl|rfl|rfl<;>rfl
   have hres:subD (nuL (tcN nm ty nn key uq lk)) (.tup [.atom (4+c),nI 0]) = .tup [nI (ty c),nI 0]:=by
    show PV.tup [subD _ (.atom (4+c)),nI 0]=_
    rw [hsub]
   have h:=Ev.facts (nu:=nuL (tcN nm ty nn key uq lk)) (args:=[Amg k,colX c]) (r:=.tup [.atom (4+c),nI 0]) prog_ok (A59 hu hl) (okR_eq hg) trivial hargs (by rw [hres];rfl)
   rw [hres] at h
   rw [← e]
   simp only [List.map_cons,List.map_nil,A4j hk] at h
   exact h
  rw [hr]
  refine ⟨⟨gen _ (List.all_eq_true.1 (List.all_eq_true.1 h.1 k hkm) c hcm),gen _ (List.all_eq_true.1 (List.all_eq_true.1 h.2 k hkm) c hcm)⟩,?_⟩
  have:(ty c).toNat < 6:=by omega
  show (Nat.blt (ty c).toNat 6&&_)=true
  rw [show Nat.blt (ty c).toNat 6=true from by simpa [Nat.blt_eq] using this];rfl
 ·have hb:Nat.blt c k=false:=by
   cases h':Nat.blt c k with
   | false=>rfl
   | true=>exact absurd (by simpa [Nat.blt_eq] using h') hlt
  have hr:(Xe.col c).ty (fun i=>(ty i).toNat) k=(0,4):=if_neg hlt
  have gen:∀ g,okR (.tup (if Nat.blt c k then [.atom (4+c),nI 0] else [nI 0,nI 4])) (callF PG (fOrc noOwn []) 30 g [Amg k,colX c] [])=true→Ev PG g [Amh nm k ty nn key uq lk,(Xe.col c).e7.pv] (.tup [nI 0,nI 4]):=fun g hg=>by
   rw [hb,if_neg (by decide)] at hg
   have h:=Ev.facts (nu:=nuL (tcN nm ty nn key uq lk)) (args:=[Amg k,colX c]) (r:=.tup [nI 0,nI 4]) prog_ok (A59 hu hl) (okR_eq hg) trivial hargs rfl
   simp only [List.map_cons,List.map_nil,A4j hk] at h
   exact h
  rw [hr]
  exact ⟨⟨gen _ (List.all_eq_true.1 (List.all_eq_true.1 h.1 k hkm) c hcm),gen _ (List.all_eq_true.1 (List.all_eq_true.1 h.2 k hkm) c hcm)⟩,rfl⟩
end
open Go Go.RowKit
def zV:PV:=.agg [nI 0,nI 0,nI 0, .str []]
def tv:Nat→PV
 | 0=>zV
 | 1=>.agg [nI 1,nI 0,nI 0, .str []]
 | _=>.agg [nI 1,nI 1,nI 0, .str []]
def va (b:Nat):PV:=.agg [.atom b, .atom (b+1), .atom (b+2), .atom (b+3)]
def evF (g b:Nat) (v e:PV):Fact:=.prim g [tbA, .atom 12,eA b] (.tup [v,e])
noncomputable abbrev evK (g:Nat) (x v e:PV) (fs:List Fact):Bool:=okR (.tup [v,e]) (callF PG (fOrc noOwn fs) 30 g [tbA, .atom 12,x] [])
def Am3 (f:Nat→Bool):Bool:=f A2k&&f A2m
def A3x:Nat→Nat|0=>0|1=>2|_=>1
def A3w (i:Nat) (s l kn:Bool):Nat:=match kn with
 | false=>0
 | true=>let b:=match i with|3=>s|4=>!s|5=>l|_=>l||s
  match b with|true=>2|false=>1
def bothR (i m n:Nat):Nat :=
 let d:=match i with|7=>1|_=>2
 if m==d||n==d then d else if m==0||n==0 then 0 else 3 - d
theorem ev_lit:(Am3 fun g=>evK g (exA (nI 1) (.str []) (.atom 30) (.atom 31) (.atom 32) (.atom 33) .nilslice) (va 30) (nI 0) [])=true:=by kernel_rfl
theorem A85:(Am3 fun g=>(List.range 3).all fun m=>evK g (unX 3 [eA 30]) (tv (A3x m)) (nI 0) [evF g 30 (tv m) (nI 0)])=true:=by kernel_rfl
theorem A9h:(Am3 fun g=>(List.range 6).all fun k=>evK g (unX 5 [eA 30]) (tv (if Nat.beq k 0 then 2 else 1)) (nI 0) [evF g 30 (.agg [nI k, .atom 71, .atom 72, .atom 73]) (nI 0)])=true:=by kernel_rfl
def rkF (k:Nat) (b:PV):List Fact:=[.prim A3c [nI k,va 70,va 70] (.tup [va 80, .atom 84]), .prim A3c [nI k,va 70,b] (.tup [va 80, .atom 84]), .prim A4c [nI k,va 70,b] (.tup [va 80, .atom 84])]
theorem A8n:(Am3 fun g=>evK g (unX 4 [eA 30]) (va 80) (.atom 84) (evF g 30 (va 70) (nI 0)::rkF 4 zV))=true:=by kernel_rfl
def rkG (k:Nat):List Fact:=[.prim A3c [nI k,va 70,va 74] (.tup [va 80, .atom 84]), .prim A4c [nI k,va 70,va 74] (.tup [va 80, .atom 84])]
theorem A9p:(Am3 fun g=>(List.range 3).all fun i=>evK g (unX (6+i) [eA 30,eA 60]) (va 80) (.atom 84) (evF g 30 (va 70) (nI 0)::evF g 60 (va 74) (nI 0)::rkG (6+i)))=true:=by kernel_rfl
def cpF (s l kn:Bool):List Fact:=[.prim A3d [va 70,va 74] (.tup [.bool s, .bool kn]), .prim A3e [va 70,va 74] (.tup [.bool l, .bool kn]), .prim A3f [va 70,va 74] (.tup [.bool s, .bool kn]), .prim A3h [va 70,va 74] (.tup [.bool l, .bool kn])]
theorem A9a:(Am3 fun g=>(List.range 4).all fun i=>bl fun s=>bl fun l=>bl fun kn=>evK g (unX (9+i) [eA 30,eA 60]) (tv (A3w (3+i) s l kn)) (nI 0) (evF g 30 (va 70) (nI 0)::evF g 60 (va 74) (nI 0)::cpF s l kn))=true:=by kernel_rfl
theorem A8q:(Am3 fun g=>(List.range 2).all fun i=>(List.range 3).all fun m=>(List.range 3).all fun n=>evK g (unX (13+i) [eA 30,eA 60]) (tv (bothR (7+i) m n)) (nI 0) [evF g 30 (tv m) (nI 0),evF g 60 (tv n) (nI 0)])=true:=by kernel_rfl
def neF:List Fact:=[.op (.bin .neq ty_api_Errno) [.atom 84,nI 0] (.bool true), .op (.bin .neq ty_int) [.atom 84,nI 0] (.bool true)]
theorem A87:(Am3 fun g=>(List.range 3).all fun j=>evK g (unX (3+j) [eA 30]) zV (.atom 84) (evF g 30 zV (.atom 84)::neF))=true:=by kernel_rfl
theorem A8i:(Am3 fun g=>(List.range 9).all fun i=>evK g (unX (6+i) [eA 30,eA 60]) zV (.atom 84) (evF g 30 zV (.atom 84)::neF))=true:=by kernel_rfl
theorem A78:(Am3 fun g=>(List.range 9).all fun i=>evK g (unX (6+i) [eA 30,eA 60]) zV (.atom 84) (evF g 30 (va 70) (nI 0)::evF g 60 zV (.atom 84)::neF))=true:=by kernel_rfl
end Go.Proofs.Ytglffgneikoeaaa.Den
