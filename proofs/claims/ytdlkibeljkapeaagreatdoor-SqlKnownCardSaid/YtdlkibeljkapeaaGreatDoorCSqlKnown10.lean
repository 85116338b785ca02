-- Written by drive.py and pack.py (programs of this proof's own) through the kit's printer; not trusted: Lean checks it.
import Derived.Test.YtdlkibeljkapeaaGreatDoorCSqlKnown7
namespace Go.Proofs.YtdlkibeljkapeaaGreatDoor.Den
open Go Go.RowKit
theorem Rh:Ah 90 [] 17=true:=by kernel_rfl
theorem Qf:Ah 90 [] 18=true:=by kernel_rfl
theorem Q4:Ah 90 [] 19=true:=by kernel_rfl
theorem Q0:Ah 200 [] 20=true:=by kernel_rfl
theorem P9:Ah 200 [] 21=true:=by kernel_rfl
theorem Qb:Ah 90 [] 22=true:=by kernel_rfl
theorem Qm:Ah 90 [] 23=true:=by kernel_rfl
end Go.Proofs.YtdlkibeljkapeaaGreatDoor.Den
