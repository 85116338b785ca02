-- Written by drive.py and pack.py (programs of this proof's own) through the kit's printer; not trusted: Lean checks it.
import Derived.Test.YtdlkibeljkapeaaGreatDoorCSqlKnown6
import Derived.Test.YtdlkibeljkapeaaGreatDoorCSqlKnown3
namespace Go.Proofs.YtdlkibeljkapeaaGreatDoor.Den
open Go Go.RowKit
noncomputable abbrev Ah (n:Nat) (more:List Fact) (k:Nat):Bool:=okR (.bool true) (callF PG (fOrc noOwn (sF++([.prim Gn [] (.bool true), .prim f_l3_within [.atom 0, .int .i64 24] (.int .i64 k)]++more))) n Gi [.atom 0] [])
def ks6:List (V4 × List UInt8):=[((2,1,0,[]),bs "1"),((3,-15,1,[]),bs "-1.5"),((4,0,0,bs "it's"),bs "'it''s'"),((5,0,0,[0,255]),bs "x'00ff'"),((0,0,0,[]),bs "null"),((1,1,0,[]),bs "true")]
def Eg:List (V4 × List UInt8):=[((2,-9223372036854775808,0,[]),bs "-9223372036854775808")]
def Df:Tg:=⟨bs "t", [(bs "a", 1,true),(bs "b", 2,false)],0,[1],11,⟨nI 11, .str [],nI 0,nI 0,nI 0, .str [], .slice 7 [.agg [nI 2, .str (bs "a"),nI 0,nI 0,nI 0, .str [], .nilslice], .agg [nI 1, .str [],nI 2,nI 5,nI 0, .str [], .nilslice]]⟩,bs "a < 5", [(1,bs "t")]⟩
def Ur:Fact:=.prim Bt [Ap 4 Au (bs "t") [] [] (rowP ks6) E7.zero E7.zero] (.str (bs "insert into t values (1, -1.5, 'it''s', x'00ff', null, true)"))
def U0:Fact:=.prim Bt [Ap 4 Au (bs "t") [] [] (rowP Eg) E7.zero E7.zero] (.str (bs "insert into t values (-9223372036854775808)"))
def To:Fact:=.prim Bt [Ap 1 Df.cells [] [] [] .nilslice E7.zero E7.zero] (.str (bs "create table t (a int not null, b dec, primary key (a), unique (b), check (a < 5), foreign key (b) references t)"))
theorem S8:Ah 90 [Ur] 6=true:=by kernel_rfl
theorem Ud:Ah 90 [U0] 7=true:=by kernel_rfl
theorem Qu:Ah 90 [To] 15=true:=by kernel_rfl
end Go.Proofs.YtdlkibeljkapeaaGreatDoor.Den
