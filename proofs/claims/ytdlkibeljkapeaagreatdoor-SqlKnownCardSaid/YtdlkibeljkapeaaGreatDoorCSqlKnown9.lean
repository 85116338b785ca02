-- Written by drive.py and pack.py (programs of this proof's own) through the kit's printer; not trusted: Lean checks it.
import Derived.Test.YtdlkibeljkapeaaGreatDoorCSqlKnown7
namespace Go.Proofs.YtdlkibeljkapeaaGreatDoor.Den
open Go Go.RowKit
theorem Ue:Ah 90 [] 9=true:=by kernel_rfl
theorem Qo:Ah 90 [] 10=true:=by kernel_rfl
theorem Q6:Ah 90 [] 11=true:=by kernel_rfl
theorem P1:Ah 90 [] 12=true:=by kernel_rfl
theorem Qq:Ah 90 [] 13=true:=by kernel_rfl
theorem Qy:Ah 90 [] 14=true:=by kernel_rfl
theorem Qj:Ah 90 [] 16=true:=by kernel_rfl
end Go.Proofs.YtdlkibeljkapeaaGreatDoor.Den
