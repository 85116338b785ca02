-- Written by drive.py and pack.py (programs of this proof's own) through the kit's printer; not trusted: Lean checks it.
import Derived.Test.YtdlkibeljkapeaaGreatDoorCSqlKnown7
namespace Go.Proofs.YtdlkibeljkapeaaGreatDoor.Den
open Go Go.RowKit
theorem Ss:Ah 90 [] 0=true:=by kernel_rfl
theorem Ub:Ah 90 [] 1=true:=by kernel_rfl
theorem R1:Ah 90 [] 2=true:=by kernel_rfl
theorem Tv:Ah 90 [] 3=true:=by kernel_rfl
theorem Rt:Ah 90 [] 4=true:=by kernel_rfl
theorem Ta:Ah 90 [] 5=true:=by kernel_rfl
theorem Ug:Ah 90 [] 8=true:=by kernel_rfl
end Go.Proofs.YtdlkibeljkapeaaGreatDoor.Den
