-- Written by drive.py and pack.py (programs of this proof's own) through the kit's printer; not trusted: Lean checks it.
import Derived.Test.YtllkhdhanheieaaCValNulls1
import Derived.Test.YtllkhdhanheieaaCValNulls10
import Derived.Test.YtllkhdhanheieaaCValNulls11
import Derived.Test.YtllkhdhanheieaaCValNulls7
import Derived.Test.YtllkhdhanheieaaCValNulls3
namespace Go.Proofs.Ytllkhdhanheieaa.V
open Go.RowKit Go.Proofs.YtllkhdhanheieaaW.PrintWords Go.Proofs.YtllkhdhanheieaaW.PrintLast Go.Proofs.YtllkhdhanheieaaW.PrintMore
attribute [local go_sem] max2_int min2_int max_two min_two max_three min_three max_four min_four
attribute [local go_sem high] own_gtr own_leq own_geq own_cell_set Option.map_some fld23_1
set_option linter.unusedVariables false
set_option linter.unusedSimpArgs false
attribute [local go_sem high] eqA23
def federationlaw1_ValNulls.f (k : Nat) (a0 : Int) (a1 : Int) (a2 : ByteArray) (a3 : Int) : Option (Bool) := (federationlaw1_known.f k).bind fun t101 => (if t101 = true then (if (a2.size : Int) > 100 then (some true) else ((federationlaw1_Make.f k a0 a1 a2).bind fun bt102 => ((some (([6, 7, 8] : List Int) : List Int)).bind fun y107 => ((federationlaw1_within.f a3 3).bind fun t110 => (if 0 ≤ t110 then (if t110 < (y107.length : Int) then ((val_Reckon.f k (rd y107 t110) bt102.1 bt102.2.1 bt102.2.2.1 bt102.2.2.2 0 0 0 (⟨#[]⟩ : ByteArray)).bind fun bt112 => ((val_Reckon.f k (rd y107 t110) 0 0 0 (⟨#[]⟩ : ByteArray) bt102.1 bt102.2.1 bt102.2.2.1 bt102.2.2.2).bind fun bt118 => ((val_Reckon.f k 4 0 0 0 (⟨#[]⟩ : ByteArray) bt102.1 bt102.2.1 bt102.2.2.1 bt102.2.2.2).bind fun bt124 => ((val_Reckon.f k (rd y107 t110) 2 1 0 (⟨#[]⟩ : ByteArray) 3 1 0 (⟨#[]⟩ : ByteArray)).bind fun bt130 => (if bt102.1 = 0 then (if (bt112.1 == 0 && (bt112.2.1 == 0 && (bt112.2.2.1 == 0 && (bt112.2.2.2.1.toList == ([] : List UInt8))))) = true then (if (bt118.1 == bt112.1 && (bt118.2.1 == bt112.2.1 && (bt118.2.2.1 == bt112.2.2.1 && (bt118.2.2.2.1.toList == bt112.2.2.2.1.toList)))) = true then (if (bt124.1 == bt112.1 && (bt124.2.1 == bt112.2.1 && (bt124.2.2.1 == bt112.2.2.1 && (bt124.2.2.2.1.toList == bt112.2.2.2.1.toList)))) = true then (if ((bt112.2.2.2.2 == 0) == true) = true then (if bt118.2.2.2.2 = bt112.2.2.2.2 then (if bt112.2.2.2.2 = 0 then (if bt124.2.2.2.2 = 0 then (some (bt130.2.2.2.2 == 5)) else (if bt124.2.2.2.2 = 5 then (some (bt130.2.2.2.2 == 5)) else (none))) else (if bt112.2.2.2.2 = 5 then (if bt124.2.2.2.2 = 0 then (some (bt130.2.2.2.2 == 5)) else (if bt124.2.2.2.2 = 5 then (some (bt130.2.2.2.2 == 5)) else (none))) else (none))) else (none)) else (none)) else (none)) else (none)) else (none)) else (if bt102.1 = 2 then (if (bt112.1 == 0 && (bt112.2.1 == 0 && (bt112.2.2.1 == 0 && (bt112.2.2.2.1.toList == ([] : List UInt8))))) = true then (if (bt118.1 == bt112.1 && (bt118.2.1 == bt112.2.1 && (bt118.2.2.1 == bt112.2.2.1 && (bt118.2.2.2.1.toList == bt112.2.2.2.1.toList)))) = true then (if (bt124.1 == bt112.1 && (bt124.2.1 == bt112.2.1 && (bt124.2.2.1 == bt112.2.2.1 && (bt124.2.2.2.1.toList == bt112.2.2.2.1.toList)))) = true then (if ((bt112.2.2.2.2 == 0) == true) = true then (if bt118.2.2.2.2 = bt112.2.2.2.2 then (if bt112.2.2.2.2 = 0 then (if bt124.2.2.2.2 = 0 then (some (bt130.2.2.2.2 == 5)) else (if bt124.2.2.2.2 = 5 then (some (bt130.2.2.2.2 == 5)) else (none))) else (if bt112.2.2.2.2 = 5 then (if bt124.2.2.2.2 = 0 then (some (bt130.2.2.2.2 == 5)) else (if bt124.2.2.2.2 = 5 then (some (bt130.2.2.2.2 == 5)) else (none))) else (none))) else (none)) else (none)) else (none)) else (none)) else (none)) else (if (bt112.1 == 0 && (bt112.2.1 == 0 && (bt112.2.2.1 == 0 && (bt112.2.2.2.1.toList == ([] : List UInt8))))) = true then (if (bt118.1 == bt112.1 && (bt118.2.1 == bt112.2.1 && (bt118.2.2.1 == bt112.2.2.1 && (bt118.2.2.2.1.toList == bt112.2.2.2.1.toList)))) = true then (if (bt124.1 == bt112.1 && (bt124.2.1 == bt112.2.1 && (bt124.2.2.1 == bt112.2.2.1 && (bt124.2.2.2.1.toList == bt112.2.2.2.1.toList)))) = true then (if ((bt112.2.2.2.2 == 0) == (bt102.1 == 3)) = true then (if bt118.2.2.2.2 = bt112.2.2.2.2 then (if bt112.2.2.2.2 = 0 then (if bt124.2.2.2.2 = 0 then (some (bt130.2.2.2.2 == 5)) else (if bt124.2.2.2.2 = 5 then (some (bt130.2.2.2.2 == 5)) else (none))) else (if bt112.2.2.2.2 = 5 then (if bt124.2.2.2.2 = 0 then (some (bt130.2.2.2.2 == 5)) else (if bt124.2.2.2.2 = 5 then (some (bt130.2.2.2.2 == 5)) else (none))) else (none))) else (none)) else (none)) else (none)) else (none)) else (none)))))))) else (none)) else (none)))))) else (none))
set_option maxHeartbeats 40000000 in
set_option maxRecDepth 100000 in
theorem federationlaw1_ValNulls.calls (k : Nat) (a0 : Int) (a1 : Int) (a2 : ByteArray) (a3 : Int) (r : Bool) (w : World) (h : federationlaw1_ValNulls.f k a0 a1 a2 a3 = some r) :
    Calls Try.prog 6 #[.int .i64 a0, .int .i64 a1, .string a2, .int .i64 a3] w fun e w' => e = .returned (.bool r) ∧ Below w.heap.size w w' := by
  have hu23 := Try.underlying23
  have HB := Aside0.mk (Below.refl w.heap.size w)
  have H : ((federationlaw1_known.f k).bind fun t101 => (if t101 = true then (if (a2.size : Int) > 100 then (some true) else ((federationlaw1_Make.f k a0 a1 a2).bind fun bt102 => ((some (([6, 7, 8] : List Int) : List Int)).bind fun y107 => ((federationlaw1_within.f a3 3).bind fun t110 => (if 0 ≤ t110 then (if t110 < (y107.length : Int) then ((val_Reckon.f k (rd y107 t110) bt102.1 bt102.2.1 bt102.2.2.1 bt102.2.2.2 0 0 0 (⟨#[]⟩ : ByteArray)).bind fun bt112 => ((val_Reckon.f k (rd y107 t110) 0 0 0 (⟨#[]⟩ : ByteArray) bt102.1 bt102.2.1 bt102.2.2.1 bt102.2.2.2).bind fun bt118 => ((val_Reckon.f k 4 0 0 0 (⟨#[]⟩ : ByteArray) bt102.1 bt102.2.1 bt102.2.2.1 bt102.2.2.2).bind fun bt124 => ((val_Reckon.f k (rd y107 t110) 2 1 0 (⟨#[]⟩ : ByteArray) 3 1 0 (⟨#[]⟩ : ByteArray)).bind fun bt130 => (if bt102.1 = 0 then (if (bt112.1 == 0 && (bt112.2.1 == 0 && (bt112.2.2.1 == 0 && (bt112.2.2.2.1.toList == ([] : List UInt8))))) = true then (if (bt118.1 == bt112.1 && (bt118.2.1 == bt112.2.1 && (bt118.2.2.1 == bt112.2.2.1 && (bt118.2.2.2.1.toList == bt112.2.2.2.1.toList)))) = true then (if (bt124.1 == bt112.1 && (bt124.2.1 == bt112.2.1 && (bt124.2.2.1 == bt112.2.2.1 && (bt124.2.2.2.1.toList == bt112.2.2.2.1.toList)))) = true then (if ((bt112.2.2.2.2 == 0) == true) = true then (if bt118.2.2.2.2 = bt112.2.2.2.2 then (if bt112.2.2.2.2 = 0 then (if bt124.2.2.2.2 = 0 then (some (bt130.2.2.2.2 == 5)) else (if bt124.2.2.2.2 = 5 then (some (bt130.2.2.2.2 == 5)) else (none))) else (if bt112.2.2.2.2 = 5 then (if bt124.2.2.2.2 = 0 then (some (bt130.2.2.2.2 == 5)) else (if bt124.2.2.2.2 = 5 then (some (bt130.2.2.2.2 == 5)) else (none))) else (none))) else (none)) else (none)) else (none)) else (none)) else (none)) else (if bt102.1 = 2 then (if (bt112.1 == 0 && (bt112.2.1 == 0 && (bt112.2.2.1 == 0 && (bt112.2.2.2.1.toList == ([] : List UInt8))))) = true then (if (bt118.1 == bt112.1 && (bt118.2.1 == bt112.2.1 && (bt118.2.2.1 == bt112.2.2.1 && (bt118.2.2.2.1.toList == bt112.2.2.2.1.toList)))) = true then (if (bt124.1 == bt112.1 && (bt124.2.1 == bt112.2.1 && (bt124.2.2.1 == bt112.2.2.1 && (bt124.2.2.2.1.toList == bt112.2.2.2.1.toList)))) = true then (if ((bt112.2.2.2.2 == 0) == true) = true then (if bt118.2.2.2.2 = bt112.2.2.2.2 then (if bt112.2.2.2.2 = 0 then (if bt124.2.2.2.2 = 0 then (some (bt130.2.2.2.2 == 5)) else (if bt124.2.2.2.2 = 5 then (some (bt130.2.2.2.2 == 5)) else (none))) else (if bt112.2.2.2.2 = 5 then (if bt124.2.2.2.2 = 0 then (some (bt130.2.2.2.2 == 5)) else (if bt124.2.2.2.2 = 5 then (some (bt130.2.2.2.2 == 5)) else (none))) else (none))) else (none)) else (none)) else (none)) else (none)) else (none)) else (if (bt112.1 == 0 && (bt112.2.1 == 0 && (bt112.2.2.1 == 0 && (bt112.2.2.2.1.toList == ([] : List UInt8))))) = true then (if (bt118.1 == bt112.1 && (bt118.2.1 == bt112.2.1 && (bt118.2.2.1 == bt112.2.2.1 && (bt118.2.2.2.1.toList == bt112.2.2.2.1.toList)))) = true then (if (bt124.1 == bt112.1 && (bt124.2.1 == bt112.2.1 && (bt124.2.2.1 == bt112.2.2.1 && (bt124.2.2.2.1.toList == bt112.2.2.2.1.toList)))) = true then (if ((bt112.2.2.2.2 == 0) == (bt102.1 == 3)) = true then (if bt118.2.2.2.2 = bt112.2.2.2.2 then (if bt112.2.2.2.2 = 0 then (if bt124.2.2.2.2 = 0 then (some (bt130.2.2.2.2 == 5)) else (if bt124.2.2.2.2 = 5 then (some (bt130.2.2.2.2 == 5)) else (none))) else (if bt112.2.2.2.2 = 5 then (if bt124.2.2.2.2 = 0 then (some (bt130.2.2.2.2 == 5)) else (if bt124.2.2.2.2 = 5 then (some (bt130.2.2.2.2 == 5)) else (none))) else (none))) else (none)) else (none)) else (none)) else (none)) else (none)))))))) else (none)) else (none)))))) else (none))) = some r := h
  clear h
  replace H := Option.bind_eq_some_iff.mp H
  obtain ⟨t101, A50, H⟩ := H
  replace H : (if t101 = true then (if (a2.size : Int) > 100 then (some true) else ((federationlaw1_Make.f k a0 a1 a2).bind fun bt102 => ((some (([6, 7, 8] : List Int) : List Int)).bind fun y107 => ((federationlaw1_within.f a3 3).bind fun t110 => (if 0 ≤ t110 then (if t110 < (y107.length : Int) then ((val_Reckon.f k (rd y107 t110) bt102.1 bt102.2.1 bt102.2.2.1 bt102.2.2.2 0 0 0 (⟨#[]⟩ : ByteArray)).bind fun bt112 => ((val_Reckon.f k (rd y107 t110) 0 0 0 (⟨#[]⟩ : ByteArray) bt102.1 bt102.2.1 bt102.2.2.1 bt102.2.2.2).bind fun bt118 => ((val_Reckon.f k 4 0 0 0 (⟨#[]⟩ : ByteArray) bt102.1 bt102.2.1 bt102.2.2.1 bt102.2.2.2).bind fun bt124 => ((val_Reckon.f k (rd y107 t110) 2 1 0 (⟨#[]⟩ : ByteArray) 3 1 0 (⟨#[]⟩ : ByteArray)).bind fun bt130 => (if bt102.1 = 0 then (if (bt112.1 == 0 && (bt112.2.1 == 0 && (bt112.2.2.1 == 0 && (bt112.2.2.2.1.toList == ([] : List UInt8))))) = true then (if (bt118.1 == bt112.1 && (bt118.2.1 == bt112.2.1 && (bt118.2.2.1 == bt112.2.2.1 && (bt118.2.2.2.1.toList == bt112.2.2.2.1.toList)))) = true then (if (bt124.1 == bt112.1 && (bt124.2.1 == bt112.2.1 && (bt124.2.2.1 == bt112.2.2.1 && (bt124.2.2.2.1.toList == bt112.2.2.2.1.toList)))) = true then (if ((bt112.2.2.2.2 == 0) == true) = true then (if bt118.2.2.2.2 = bt112.2.2.2.2 then (if bt112.2.2.2.2 = 0 then (if bt124.2.2.2.2 = 0 then (some (bt130.2.2.2.2 == 5)) else (if bt124.2.2.2.2 = 5 then (some (bt130.2.2.2.2 == 5)) else (none))) else (if bt112.2.2.2.2 = 5 then (if bt124.2.2.2.2 = 0 then (some (bt130.2.2.2.2 == 5)) else (if bt124.2.2.2.2 = 5 then (some (bt130.2.2.2.2 == 5)) else (none))) else (none))) else (none)) else (none)) else (none)) else (none)) else (none)) else (if bt102.1 = 2 then (if (bt112.1 == 0 && (bt112.2.1 == 0 && (bt112.2.2.1 == 0 && (bt112.2.2.2.1.toList == ([] : List UInt8))))) = true then (if (bt118.1 == bt112.1 && (bt118.2.1 == bt112.2.1 && (bt118.2.2.1 == bt112.2.2.1 && (bt118.2.2.2.1.toList == bt112.2.2.2.1.toList)))) = true then (if (bt124.1 == bt112.1 && (bt124.2.1 == bt112.2.1 && (bt124.2.2.1 == bt112.2.2.1 && (bt124.2.2.2.1.toList == bt112.2.2.2.1.toList)))) = true then (if ((bt112.2.2.2.2 == 0) == true) = true then (if bt118.2.2.2.2 = bt112.2.2.2.2 then (if bt112.2.2.2.2 = 0 then (if bt124.2.2.2.2 = 0 then (some (bt130.2.2.2.2 == 5)) else (if bt124.2.2.2.2 = 5 then (some (bt130.2.2.2.2 == 5)) else (none))) else (if bt112.2.2.2.2 = 5 then (if bt124.2.2.2.2 = 0 then (some (bt130.2.2.2.2 == 5)) else (if bt124.2.2.2.2 = 5 then (some (bt130.2.2.2.2 == 5)) else (none))) else (none))) else (none)) else (none)) else (none)) else (none)) else (none)) else (if (bt112.1 == 0 && (bt112.2.1 == 0 && (bt112.2.2.1 == 0 && (bt112.2.2.2.1.toList == ([] : List UInt8))))) = true then (if (bt118.1 == bt112.1 && (bt118.2.1 == bt112.2.1 && (bt118.2.2.1 == bt112.2.2.1 && (bt118.2.2.2.1.toList == bt112.2.2.2.1.toList)))) = true then (if (bt124.1 == bt112.1 && (bt124.2.1 == bt112.2.1 && (bt124.2.2.1 == bt112.2.2.1 && (bt124.2.2.2.1.toList == bt112.2.2.2.1.toList)))) = true then (if ((bt112.2.2.2.2 == 0) == (bt102.1 == 3)) = true then (if bt118.2.2.2.2 = bt112.2.2.2.2 then (if bt112.2.2.2.2 = 0 then (if bt124.2.2.2.2 = 0 then (some (bt130.2.2.2.2 == 5)) else (if bt124.2.2.2.2 = 5 then (some (bt130.2.2.2.2 == 5)) else (none))) else (if bt112.2.2.2.2 = 5 then (if bt124.2.2.2.2 = 0 then (some (bt130.2.2.2.2 == 5)) else (if bt124.2.2.2.2 = 5 then (some (bt130.2.2.2.2 == 5)) else (none))) else (none))) else (none)) else (none)) else (none)) else (none)) else (none)))))))) else (none)) else (none)))))) else (none)) = some r := H
  have A5 := Aside0.mk A50
  clear A50
  by_cases c6 : t101 = true
  · subst c6
    have H1 : (if (a2.size : Int) > 100 then (some true) else ((federationlaw1_Make.f k a0 a1 a2).bind fun bt102 => ((some (([6, 7, 8] : List Int) : List Int)).bind fun y107 => ((federationlaw1_within.f a3 3).bind fun t110 => (if 0 ≤ t110 then (if t110 < (y107.length : Int) then ((val_Reckon.f k (rd y107 t110) bt102.1 bt102.2.1 bt102.2.2.1 bt102.2.2.2 0 0 0 (⟨#[]⟩ : ByteArray)).bind fun bt112 => ((val_Reckon.f k (rd y107 t110) 0 0 0 (⟨#[]⟩ : ByteArray) bt102.1 bt102.2.1 bt102.2.2.1 bt102.2.2.2).bind fun bt118 => ((val_Reckon.f k 4 0 0 0 (⟨#[]⟩ : ByteArray) bt102.1 bt102.2.1 bt102.2.2.1 bt102.2.2.2).bind fun bt124 => ((val_Reckon.f k (rd y107 t110) 2 1 0 (⟨#[]⟩ : ByteArray) 3 1 0 (⟨#[]⟩ : ByteArray)).bind fun bt130 => (if bt102.1 = 0 then (if (bt112.1 == 0 && (bt112.2.1 == 0 && (bt112.2.2.1 == 0 && (bt112.2.2.2.1.toList == ([] : List UInt8))))) = true then (if (bt118.1 == bt112.1 && (bt118.2.1 == bt112.2.1 && (bt118.2.2.1 == bt112.2.2.1 && (bt118.2.2.2.1.toList == bt112.2.2.2.1.toList)))) = true then (if (bt124.1 == bt112.1 && (bt124.2.1 == bt112.2.1 && (bt124.2.2.1 == bt112.2.2.1 && (bt124.2.2.2.1.toList == bt112.2.2.2.1.toList)))) = true then (if ((bt112.2.2.2.2 == 0) == true) = true then (if bt118.2.2.2.2 = bt112.2.2.2.2 then (if bt112.2.2.2.2 = 0 then (if bt124.2.2.2.2 = 0 then (some (bt130.2.2.2.2 == 5)) else (if bt124.2.2.2.2 = 5 then (some (bt130.2.2.2.2 == 5)) else (none))) else (if bt112.2.2.2.2 = 5 then (if bt124.2.2.2.2 = 0 then (some (bt130.2.2.2.2 == 5)) else (if bt124.2.2.2.2 = 5 then (some (bt130.2.2.2.2 == 5)) else (none))) else (none))) else (none)) else (none)) else (none)) else (none)) else (none)) else (if bt102.1 = 2 then (if (bt112.1 == 0 && (bt112.2.1 == 0 && (bt112.2.2.1 == 0 && (bt112.2.2.2.1.toList == ([] : List UInt8))))) = true then (if (bt118.1 == bt112.1 && (bt118.2.1 == bt112.2.1 && (bt118.2.2.1 == bt112.2.2.1 && (bt118.2.2.2.1.toList == bt112.2.2.2.1.toList)))) = true then (if (bt124.1 == bt112.1 && (bt124.2.1 == bt112.2.1 && (bt124.2.2.1 == bt112.2.2.1 && (bt124.2.2.2.1.toList == bt112.2.2.2.1.toList)))) = true then (if ((bt112.2.2.2.2 == 0) == true) = true then (if bt118.2.2.2.2 = bt112.2.2.2.2 then (if bt112.2.2.2.2 = 0 then (if bt124.2.2.2.2 = 0 then (some (bt130.2.2.2.2 == 5)) else (if bt124.2.2.2.2 = 5 then (some (bt130.2.2.2.2 == 5)) else (none))) else (if bt112.2.2.2.2 = 5 then (if bt124.2.2.2.2 = 0 then (some (bt130.2.2.2.2 == 5)) else (if bt124.2.2.2.2 = 5 then (some (bt130.2.2.2.2 == 5)) else (none))) else (none))) else (none)) else (none)) else (none)) else (none)) else (none)) else (if (bt112.1 == 0 && (bt112.2.1 == 0 && (bt112.2.2.1 == 0 && (bt112.2.2.2.1.toList == ([] : List UInt8))))) = true then (if (bt118.1 == bt112.1 && (bt118.2.1 == bt112.2.1 && (bt118.2.2.1 == bt112.2.2.1 && (bt118.2.2.2.1.toList == bt112.2.2.2.1.toList)))) = true then (if (bt124.1 == bt112.1 && (bt124.2.1 == bt112.2.1 && (bt124.2.2.1 == bt112.2.2.1 && (bt124.2.2.2.1.toList == bt112.2.2.2.1.toList)))) = true then (if ((bt112.2.2.2.2 == 0) == (bt102.1 == 3)) = true then (if bt118.2.2.2.2 = bt112.2.2.2.2 then (if bt112.2.2.2.2 = 0 then (if bt124.2.2.2.2 = 0 then (some (bt130.2.2.2.2 == 5)) else (if bt124.2.2.2.2 = 5 then (some (bt130.2.2.2.2 == 5)) else (none))) else (if bt112.2.2.2.2 = 5 then (if bt124.2.2.2.2 = 0 then (some (bt130.2.2.2.2 == 5)) else (if bt124.2.2.2.2 = 5 then (some (bt130.2.2.2.2 == 5)) else (none))) else (none))) else (none)) else (none)) else (none)) else (none)) else (none)))))))) else (none)) else (none)))))) = some r := by rw [if_pos rfl] at H; exact H
    clear H
    have H := H1
    clear H1
    by_cases c7 : (a2.size : Int) > 100
    · rw [if_pos c7] at H
      have c7b0 : decide (100 < (a2.size : Int)) = true := decide_eq_true c7
      have c7b1 : decide (100 < a2.size) = true := decide_eq_true (by omega)
      clear c7
      obtain rfl := Option.some.inj H
      (try have z_ : (t102 == 3) = (t116 == 0) := (beq_iff_eq.1 c340b0).symm)
      (try rw [c342b0] at z_)
      go_enter Try.func6, Try.ntmps6
      go_wp2_with (first | ((with_reducible refine gate_callee (f := 13) rfl ?_); refine goesL_ (some 20) rfl rfl Try.func13 (by kernel_rfl) rfl #[] rfl (by (try simp only [List.map_toArray, List.map_cons, List.map_nil]); first | done | rfl | (simp only [List.length_drop, List.length_take]; rfl)) ?_; (with_reducible refine (federationlaw1_known.calls k  true _ A5.out).mono ?_); rintro e w8 ⟨rfl, hb⟩; refine ⟨_, rfl, ?_⟩; have n0_ := Aside0.mk (below_step (by repeat (first | (with_reducible first | exact HB.out | apply below_alloc | apply pw_below_drewN | apply below_drew1) | exact HB.out)) hb); clear HB; have HB := n0_; clear n0_; (try clear hb); (try clear hb2); (try clear hk); (try clear hi)))
      go_ret
      exact ⟨by first | rfl | (simp [errW_none, errW_some] <;> rfl) | (simp [*, errW_none, errW_some] <;> rfl) | (exfalso; have h_ : ((t116 == 0) == true) = true := (by assumption); have g_ : (t116 == 0) = false := (by assumption); rw [g_] at h_; cases h_), by repeat (first | (with_reducible first | exact HB.out | apply below_alloc | apply pw_below_drewN | apply below_drew1) | exact HB.out)⟩
    · rw [if_neg c7] at H
      have c7b0 : decide (100 < (a2.size : Int)) = false := decide_eq_false c7
      have c7b1 : decide (100 < a2.size) = false := decide_eq_false (by omega)
      clear c7
      replace H := Option.bind_eq_some_iff.mp H
      obtain ⟨⟨t102, t103, t104, t105⟩, A90, H⟩ := H
      replace H : ((some (([6, 7, 8] : List Int) : List Int)).bind fun y107 => ((federationlaw1_within.f a3 3).bind fun t110 => (if 0 ≤ t110 then (if t110 < (y107.length : Int) then ((val_Reckon.f k (rd y107 t110) t102 t103 t104 t105 0 0 0 (⟨#[]⟩ : ByteArray)).bind fun bt112 => ((val_Reckon.f k (rd y107 t110) 0 0 0 (⟨#[]⟩ : ByteArray) t102 t103 t104 t105).bind fun bt118 => ((val_Reckon.f k 4 0 0 0 (⟨#[]⟩ : ByteArray) t102 t103 t104 t105).bind fun bt124 => ((val_Reckon.f k (rd y107 t110) 2 1 0 (⟨#[]⟩ : ByteArray) 3 1 0 (⟨#[]⟩ : ByteArray)).bind fun bt130 => (if t102 = 0 then (if (bt112.1 == 0 && (bt112.2.1 == 0 && (bt112.2.2.1 == 0 && (bt112.2.2.2.1.toList == ([] : List UInt8))))) = true then (if (bt118.1 == bt112.1 && (bt118.2.1 == bt112.2.1 && (bt118.2.2.1 == bt112.2.2.1 && (bt118.2.2.2.1.toList == bt112.2.2.2.1.toList)))) = true then (if (bt124.1 == bt112.1 && (bt124.2.1 == bt112.2.1 && (bt124.2.2.1 == bt112.2.2.1 && (bt124.2.2.2.1.toList == bt112.2.2.2.1.toList)))) = true then (if ((bt112.2.2.2.2 == 0) == true) = true then (if bt118.2.2.2.2 = bt112.2.2.2.2 then (if bt112.2.2.2.2 = 0 then (if bt124.2.2.2.2 = 0 then (some (bt130.2.2.2.2 == 5)) else (if bt124.2.2.2.2 = 5 then (some (bt130.2.2.2.2 == 5)) else (none))) else (if bt112.2.2.2.2 = 5 then (if bt124.2.2.2.2 = 0 then (some (bt130.2.2.2.2 == 5)) else (if bt124.2.2.2.2 = 5 then (some (bt130.2.2.2.2 == 5)) else (none))) else (none))) else (none)) else (none)) else (none)) else (none)) else (none)) else (if t102 = 2 then (if (bt112.1 == 0 && (bt112.2.1 == 0 && (bt112.2.2.1 == 0 && (bt112.2.2.2.1.toList == ([] : List UInt8))))) = true then (if (bt118.1 == bt112.1 && (bt118.2.1 == bt112.2.1 && (bt118.2.2.1 == bt112.2.2.1 && (bt118.2.2.2.1.toList == bt112.2.2.2.1.toList)))) = true then (if (bt124.1 == bt112.1 && (bt124.2.1 == bt112.2.1 && (bt124.2.2.1 == bt112.2.2.1 && (bt124.2.2.2.1.toList == bt112.2.2.2.1.toList)))) = true then (if ((bt112.2.2.2.2 == 0) == true) = true then (if bt118.2.2.2.2 = bt112.2.2.2.2 then (if bt112.2.2.2.2 = 0 then (if bt124.2.2.2.2 = 0 then (some (bt130.2.2.2.2 == 5)) else (if bt124.2.2.2.2 = 5 then (some (bt130.2.2.2.2 == 5)) else (none))) else (if bt112.2.2.2.2 = 5 then (if bt124.2.2.2.2 = 0 then (some (bt130.2.2.2.2 == 5)) else (if bt124.2.2.2.2 = 5 then (some (bt130.2.2.2.2 == 5)) else (none))) else (none))) else (none)) else (none)) else (none)) else (none)) else (none)) else (if (bt112.1 == 0 && (bt112.2.1 == 0 && (bt112.2.2.1 == 0 && (bt112.2.2.2.1.toList == ([] : List UInt8))))) = true then (if (bt118.1 == bt112.1 && (bt118.2.1 == bt112.2.1 && (bt118.2.2.1 == bt112.2.2.1 && (bt118.2.2.2.1.toList == bt112.2.2.2.1.toList)))) = true then (if (bt124.1 == bt112.1 && (bt124.2.1 == bt112.2.1 && (bt124.2.2.1 == bt112.2.2.1 && (bt124.2.2.2.1.toList == bt112.2.2.2.1.toList)))) = true then (if ((bt112.2.2.2.2 == 0) == (t102 == 3)) = true then (if bt118.2.2.2.2 = bt112.2.2.2.2 then (if bt112.2.2.2.2 = 0 then (if bt124.2.2.2.2 = 0 then (some (bt130.2.2.2.2 == 5)) else (if bt124.2.2.2.2 = 5 then (some (bt130.2.2.2.2 == 5)) else (none))) else (if bt112.2.2.2.2 = 5 then (if bt124.2.2.2.2 = 0 then (some (bt130.2.2.2.2 == 5)) else (if bt124.2.2.2.2 = 5 then (some (bt130.2.2.2.2 == 5)) else (none))) else (none))) else (none)) else (none)) else (none)) else (none)) else (none)))))))) else (none)) else (none)))) = some r := H
      have A9 := Aside0.mk A90
      clear A90
      obtain ⟨y107, hy107⟩ : ∃ y_ : List Int, y_ = (([6, 7, 8] : List Int)) := ⟨_, rfl⟩
      replace H : ((federationlaw1_within.f a3 3).bind fun t110 => (if 0 ≤ t110 then (if t110 < (y107.length : Int) then ((val_Reckon.f k (rd y107 t110) t102 t103 t104 t105 0 0 0 (⟨#[]⟩ : ByteArray)).bind fun bt112 => ((val_Reckon.f k (rd y107 t110) 0 0 0 (⟨#[]⟩ : ByteArray) t102 t103 t104 t105).bind fun bt118 => ((val_Reckon.f k 4 0 0 0 (⟨#[]⟩ : ByteArray) t102 t103 t104 t105).bind fun bt124 => ((val_Reckon.f k (rd y107 t110) 2 1 0 (⟨#[]⟩ : ByteArray) 3 1 0 (⟨#[]⟩ : ByteArray)).bind fun bt130 => (if t102 = 0 then (if (bt112.1 == 0 && (bt112.2.1 == 0 && (bt112.2.2.1 == 0 && (bt112.2.2.2.1.toList == ([] : List UInt8))))) = true then (if (bt118.1 == bt112.1 && (bt118.2.1 == bt112.2.1 && (bt118.2.2.1 == bt112.2.2.1 && (bt118.2.2.2.1.toList == bt112.2.2.2.1.toList)))) = true then (if (bt124.1 == bt112.1 && (bt124.2.1 == bt112.2.1 && (bt124.2.2.1 == bt112.2.2.1 && (bt124.2.2.2.1.toList == bt112.2.2.2.1.toList)))) = true then (if ((bt112.2.2.2.2 == 0) == true) = true then (if bt118.2.2.2.2 = bt112.2.2.2.2 then (if bt112.2.2.2.2 = 0 then (if bt124.2.2.2.2 = 0 then (some (bt130.2.2.2.2 == 5)) else (if bt124.2.2.2.2 = 5 then (some (bt130.2.2.2.2 == 5)) else (none))) else (if bt112.2.2.2.2 = 5 then (if bt124.2.2.2.2 = 0 then (some (bt130.2.2.2.2 == 5)) else (if bt124.2.2.2.2 = 5 then (some (bt130.2.2.2.2 == 5)) else (none))) else (none))) else (none)) else (none)) else (none)) else (none)) else (none)) else (if t102 = 2 then (if (bt112.1 == 0 && (bt112.2.1 == 0 && (bt112.2.2.1 == 0 && (bt112.2.2.2.1.toList == ([] : List UInt8))))) = true then (if (bt118.1 == bt112.1 && (bt118.2.1 == bt112.2.1 && (bt118.2.2.1 == bt112.2.2.1 && (bt118.2.2.2.1.toList == bt112.2.2.2.1.toList)))) = true then (if (bt124.1 == bt112.1 && (bt124.2.1 == bt112.2.1 && (bt124.2.2.1 == bt112.2.2.1 && (bt124.2.2.2.1.toList == bt112.2.2.2.1.toList)))) = true then (if ((bt112.2.2.2.2 == 0) == true) = true then (if bt118.2.2.2.2 = bt112.2.2.2.2 then (if bt112.2.2.2.2 = 0 then (if bt124.2.2.2.2 = 0 then (some (bt130.2.2.2.2 == 5)) else (if bt124.2.2.2.2 = 5 then (some (bt130.2.2.2.2 == 5)) else (none))) else (if bt112.2.2.2.2 = 5 then (if bt124.2.2.2.2 = 0 then (some (bt130.2.2.2.2 == 5)) else (if bt124.2.2.2.2 = 5 then (some (bt130.2.2.2.2 == 5)) else (none))) else (none))) else (none)) else (none)) else (none)) else (none)) else (none)) else (if (bt112.1 == 0 && (bt112.2.1 == 0 && (bt112.2.2.1 == 0 && (bt112.2.2.2.1.toList == ([] : List UInt8))))) = true then (if (bt118.1 == bt112.1 && (bt118.2.1 == bt112.2.1 && (bt118.2.2.1 == bt112.2.2.1 && (bt118.2.2.2.1.toList == bt112.2.2.2.1.toList)))) = true then (if (bt124.1 == bt112.1 && (bt124.2.1 == bt112.2.1 && (bt124.2.2.1 == bt112.2.2.1 && (bt124.2.2.2.1.toList == bt112.2.2.2.1.toList)))) = true then (if ((bt112.2.2.2.2 == 0) == (t102 == 3)) = true then (if bt118.2.2.2.2 = bt112.2.2.2.2 then (if bt112.2.2.2.2 = 0 then (if bt124.2.2.2.2 = 0 then (some (bt130.2.2.2.2 == 5)) else (if bt124.2.2.2.2 = 5 then (some (bt130.2.2.2.2 == 5)) else (none))) else (if bt112.2.2.2.2 = 5 then (if bt124.2.2.2.2 = 0 then (some (bt130.2.2.2.2 == 5)) else (if bt124.2.2.2.2 = 5 then (some (bt130.2.2.2.2 == 5)) else (none))) else (none))) else (none)) else (none)) else (none)) else (none)) else (none)))))))) else (none)) else (none))) = some r := by first | (rw [hy107]; with_reducible exact H) | (have H2_ := (Option.bind_some _ _).symm.trans H; rw [hy107]; with_reducible exact H2_) | (have H2_ := (Option.bind_some _ _).symm.trans H; with_reducible exact H2_) | with_reducible exact H | (rw [hy107]; exact H) | exact H
      have Ny107 := Aside0.mk hy107
      clear hy107
      replace H := Option.bind_eq_some_iff.mp H
      obtain ⟨t110, A100, H⟩ := H
      replace H : (if 0 ≤ t110 then (if t110 < (y107.length : Int) then ((val_Reckon.f k (rd y107 t110) t102 t103 t104 t105 0 0 0 (⟨#[]⟩ : ByteArray)).bind fun bt112 => ((val_Reckon.f k (rd y107 t110) 0 0 0 (⟨#[]⟩ : ByteArray) t102 t103 t104 t105).bind fun bt118 => ((val_Reckon.f k 4 0 0 0 (⟨#[]⟩ : ByteArray) t102 t103 t104 t105).bind fun bt124 => ((val_Reckon.f k (rd y107 t110) 2 1 0 (⟨#[]⟩ : ByteArray) 3 1 0 (⟨#[]⟩ : ByteArray)).bind fun bt130 => (if t102 = 0 then (if (bt112.1 == 0 && (bt112.2.1 == 0 && (bt112.2.2.1 == 0 && (bt112.2.2.2.1.toList == ([] : List UInt8))))) = true then (if (bt118.1 == bt112.1 && (bt118.2.1 == bt112.2.1 && (bt118.2.2.1 == bt112.2.2.1 && (bt118.2.2.2.1.toList == bt112.2.2.2.1.toList)))) = true then (if (bt124.1 == bt112.1 && (bt124.2.1 == bt112.2.1 && (bt124.2.2.1 == bt112.2.2.1 && (bt124.2.2.2.1.toList == bt112.2.2.2.1.toList)))) = true then (if ((bt112.2.2.2.2 == 0) == true) = true then (if bt118.2.2.2.2 = bt112.2.2.2.2 then (if bt112.2.2.2.2 = 0 then (if bt124.2.2.2.2 = 0 then (some (bt130.2.2.2.2 == 5)) else (if bt124.2.2.2.2 = 5 then (some (bt130.2.2.2.2 == 5)) else (none))) else (if bt112.2.2.2.2 = 5 then (if bt124.2.2.2.2 = 0 then (some (bt130.2.2.2.2 == 5)) else (if bt124.2.2.2.2 = 5 then (some (bt130.2.2.2.2 == 5)) else (none))) else (none))) else (none)) else (none)) else (none)) else (none)) else (none)) else (if t102 = 2 then (if (bt112.1 == 0 && (bt112.2.1 == 0 && (bt112.2.2.1 == 0 && (bt112.2.2.2.1.toList == ([] : List UInt8))))) = true then (if (bt118.1 == bt112.1 && (bt118.2.1 == bt112.2.1 && (bt118.2.2.1 == bt112.2.2.1 && (bt118.2.2.2.1.toList == bt112.2.2.2.1.toList)))) = true then (if (bt124.1 == bt112.1 && (bt124.2.1 == bt112.2.1 && (bt124.2.2.1 == bt112.2.2.1 && (bt124.2.2.2.1.toList == bt112.2.2.2.1.toList)))) = true then (if ((bt112.2.2.2.2 == 0) == true) = true then (if bt118.2.2.2.2 = bt112.2.2.2.2 then (if bt112.2.2.2.2 = 0 then (if bt124.2.2.2.2 = 0 then (some (bt130.2.2.2.2 == 5)) else (if bt124.2.2.2.2 = 5 then (some (bt130.2.2.2.2 == 5)) else (none))) else (if bt112.2.2.2.2 = 5 then (if bt124.2.2.2.2 = 0 then (some (bt130.2.2.2.2 == 5)) else (if bt124.2.2.2.2 = 5 then (some (bt130.2.2.2.2 == 5)) else (none))) else (none))) else (none)) else (none)) else (none)) else (none)) else (none)) else (if (bt112.1 == 0 && (bt112.2.1 == 0 && (bt112.2.2.1 == 0 && (bt112.2.2.2.1.toList == ([] : List UInt8))))) = true then (if (bt118.1 == bt112.1 && (bt118.2.1 == bt112.2.1 && (bt118.2.2.1 == bt112.2.2.1 && (bt118.2.2.2.1.toList == bt112.2.2.2.1.toList)))) = true then (if (bt124.1 == bt112.1 && (bt124.2.1 == bt112.2.1 && (bt124.2.2.1 == bt112.2.2.1 && (bt124.2.2.2.1.toList == bt112.2.2.2.1.toList)))) = true then (if ((bt112.2.2.2.2 == 0) == (t102 == 3)) = true then (if bt118.2.2.2.2 = bt112.2.2.2.2 then (if bt112.2.2.2.2 = 0 then (if bt124.2.2.2.2 = 0 then (some (bt130.2.2.2.2 == 5)) else (if bt124.2.2.2.2 = 5 then (some (bt130.2.2.2.2 == 5)) else (none))) else (if bt112.2.2.2.2 = 5 then (if bt124.2.2.2.2 = 0 then (some (bt130.2.2.2.2 == 5)) else (if bt124.2.2.2.2 = 5 then (some (bt130.2.2.2.2 == 5)) else (none))) else (none))) else (none)) else (none)) else (none)) else (none)) else (none)))))))) else (none)) else (none)) = some r := H
      have A10 := Aside0.mk A100
      clear A100
      by_cases c11 : 0 ≤ t110
      · rw [if_pos c11] at H
        have c11b0 : decide (0 ≤ t110) = true := decide_eq_true c11
        clear c11
        by_cases c12 : t110 < (y107.length : Int)
        · rw [if_pos c12] at H
          have c12b0 : decide (t110 < (y107.length : Int)) = true := decide_eq_true c12
          clear c12
          replace H := Option.bind_eq_some_iff.mp H
          obtain ⟨⟨t112, t113, t114, t115, t116⟩, A130, H⟩ := H
          replace H : ((val_Reckon.f k (rd y107 t110) 0 0 0 (⟨#[]⟩ : ByteArray) t102 t103 t104 t105).bind fun bt118 => ((val_Reckon.f k 4 0 0 0 (⟨#[]⟩ : ByteArray) t102 t103 t104 t105).bind fun bt124 => ((val_Reckon.f k (rd y107 t110) 2 1 0 (⟨#[]⟩ : ByteArray) 3 1 0 (⟨#[]⟩ : ByteArray)).bind fun bt130 => (if t102 = 0 then (if (t112 == 0 && (t113 == 0 && (t114 == 0 && (t115.toList == ([] : List UInt8))))) = true then (if (bt118.1 == t112 && (bt118.2.1 == t113 && (bt118.2.2.1 == t114 && (bt118.2.2.2.1.toList == t115.toList)))) = true then (if (bt124.1 == t112 && (bt124.2.1 == t113 && (bt124.2.2.1 == t114 && (bt124.2.2.2.1.toList == t115.toList)))) = true then (if ((t116 == 0) == true) = true then (if bt118.2.2.2.2 = t116 then (if t116 = 0 then (if bt124.2.2.2.2 = 0 then (some (bt130.2.2.2.2 == 5)) else (if bt124.2.2.2.2 = 5 then (some (bt130.2.2.2.2 == 5)) else (none))) else (if t116 = 5 then (if bt124.2.2.2.2 = 0 then (some (bt130.2.2.2.2 == 5)) else (if bt124.2.2.2.2 = 5 then (some (bt130.2.2.2.2 == 5)) else (none))) else (none))) else (none)) else (none)) else (none)) else (none)) else (none)) else (if t102 = 2 then (if (t112 == 0 && (t113 == 0 && (t114 == 0 && (t115.toList == ([] : List UInt8))))) = true then (if (bt118.1 == t112 && (bt118.2.1 == t113 && (bt118.2.2.1 == t114 && (bt118.2.2.2.1.toList == t115.toList)))) = true then (if (bt124.1 == t112 && (bt124.2.1 == t113 && (bt124.2.2.1 == t114 && (bt124.2.2.2.1.toList == t115.toList)))) = true then (if ((t116 == 0) == true) = true then (if bt118.2.2.2.2 = t116 then (if t116 = 0 then (if bt124.2.2.2.2 = 0 then (some (bt130.2.2.2.2 == 5)) else (if bt124.2.2.2.2 = 5 then (some (bt130.2.2.2.2 == 5)) else (none))) else (if t116 = 5 then (if bt124.2.2.2.2 = 0 then (some (bt130.2.2.2.2 == 5)) else (if bt124.2.2.2.2 = 5 then (some (bt130.2.2.2.2 == 5)) else (none))) else (none))) else (none)) else (none)) else (none)) else (none)) else (none)) else (if (t112 == 0 && (t113 == 0 && (t114 == 0 && (t115.toList == ([] : List UInt8))))) = true then (if (bt118.1 == t112 && (bt118.2.1 == t113 && (bt118.2.2.1 == t114 && (bt118.2.2.2.1.toList == t115.toList)))) = true then (if (bt124.1 == t112 && (bt124.2.1 == t113 && (bt124.2.2.1 == t114 && (bt124.2.2.2.1.toList == t115.toList)))) = true then (if ((t116 == 0) == (t102 == 3)) = true then (if bt118.2.2.2.2 = t116 then (if t116 = 0 then (if bt124.2.2.2.2 = 0 then (some (bt130.2.2.2.2 == 5)) else (if bt124.2.2.2.2 = 5 then (some (bt130.2.2.2.2 == 5)) else (none))) else (if t116 = 5 then (if bt124.2.2.2.2 = 0 then (some (bt130.2.2.2.2 == 5)) else (if bt124.2.2.2.2 = 5 then (some (bt130.2.2.2.2 == 5)) else (none))) else (none))) else (none)) else (none)) else (none)) else (none)) else (none))))))) = some r := H
          have A13 := Aside0.mk A130
          clear A130
          replace H := Option.bind_eq_some_iff.mp H
          obtain ⟨⟨t118, t119, t120, t121, t122⟩, A140, H⟩ := H
          replace H : ((val_Reckon.f k 4 0 0 0 (⟨#[]⟩ : ByteArray) t102 t103 t104 t105).bind fun bt124 => ((val_Reckon.f k (rd y107 t110) 2 1 0 (⟨#[]⟩ : ByteArray) 3 1 0 (⟨#[]⟩ : ByteArray)).bind fun bt130 => (if t102 = 0 then (if (t112 == 0 && (t113 == 0 && (t114 == 0 && (t115.toList == ([] : List UInt8))))) = true then (if (t118 == t112 && (t119 == t113 && (t120 == t114 && (t121.toList == t115.toList)))) = true then (if (bt124.1 == t112 && (bt124.2.1 == t113 && (bt124.2.2.1 == t114 && (bt124.2.2.2.1.toList == t115.toList)))) = true then (if ((t116 == 0) == true) = true then (if t122 = t116 then (if t116 = 0 then (if bt124.2.2.2.2 = 0 then (some (bt130.2.2.2.2 == 5)) else (if bt124.2.2.2.2 = 5 then (some (bt130.2.2.2.2 == 5)) else (none))) else (if t116 = 5 then (if bt124.2.2.2.2 = 0 then (some (bt130.2.2.2.2 == 5)) else (if bt124.2.2.2.2 = 5 then (some (bt130.2.2.2.2 == 5)) else (none))) else (none))) else (none)) else (none)) else (none)) else (none)) else (none)) else (if t102 = 2 then (if (t112 == 0 && (t113 == 0 && (t114 == 0 && (t115.toList == ([] : List UInt8))))) = true then (if (t118 == t112 && (t119 == t113 && (t120 == t114 && (t121.toList == t115.toList)))) = true then (if (bt124.1 == t112 && (bt124.2.1 == t113 && (bt124.2.2.1 == t114 && (bt124.2.2.2.1.toList == t115.toList)))) = true then (if ((t116 == 0) == true) = true then (if t122 = t116 then (if t116 = 0 then (if bt124.2.2.2.2 = 0 then (some (bt130.2.2.2.2 == 5)) else (if bt124.2.2.2.2 = 5 then (some (bt130.2.2.2.2 == 5)) else (none))) else (if t116 = 5 then (if bt124.2.2.2.2 = 0 then (some (bt130.2.2.2.2 == 5)) else (if bt124.2.2.2.2 = 5 then (some (bt130.2.2.2.2 == 5)) else (none))) else (none))) else (none)) else (none)) else (none)) else (none)) else (none)) else (if (t112 == 0 && (t113 == 0 && (t114 == 0 && (t115.toList == ([] : List UInt8))))) = true then (if (t118 == t112 && (t119 == t113 && (t120 == t114 && (t121.toList == t115.toList)))) = true then (if (bt124.1 == t112 && (bt124.2.1 == t113 && (bt124.2.2.1 == t114 && (bt124.2.2.2.1.toList == t115.toList)))) = true then (if ((t116 == 0) == (t102 == 3)) = true then (if t122 = t116 then (if t116 = 0 then (if bt124.2.2.2.2 = 0 then (some (bt130.2.2.2.2 == 5)) else (if bt124.2.2.2.2 = 5 then (some (bt130.2.2.2.2 == 5)) else (none))) else (if t116 = 5 then (if bt124.2.2.2.2 = 0 then (some (bt130.2.2.2.2 == 5)) else (if bt124.2.2.2.2 = 5 then (some (bt130.2.2.2.2 == 5)) else (none))) else (none))) else (none)) else (none)) else (none)) else (none)) else (none)))))) = some r := H
          have A14 := Aside0.mk A140
          clear A140
          replace H := Option.bind_eq_some_iff.mp H
          obtain ⟨⟨t124, t125, t126, t127, t128⟩, A150, H⟩ := H
          replace H : ((val_Reckon.f k (rd y107 t110) 2 1 0 (⟨#[]⟩ : ByteArray) 3 1 0 (⟨#[]⟩ : ByteArray)).bind fun bt130 => (if t102 = 0 then (if (t112 == 0 && (t113 == 0 && (t114 == 0 && (t115.toList == ([] : List UInt8))))) = true then (if (t118 == t112 && (t119 == t113 && (t120 == t114 && (t121.toList == t115.toList)))) = true then (if (t124 == t112 && (t125 == t113 && (t126 == t114 && (t127.toList == t115.toList)))) = true then (if ((t116 == 0) == true) = true then (if t122 = t116 then (if t116 = 0 then (if t128 = 0 then (some (bt130.2.2.2.2 == 5)) else (if t128 = 5 then (some (bt130.2.2.2.2 == 5)) else (none))) else (if t116 = 5 then (if t128 = 0 then (some (bt130.2.2.2.2 == 5)) else (if t128 = 5 then (some (bt130.2.2.2.2 == 5)) else (none))) else (none))) else (none)) else (none)) else (none)) else (none)) else (none)) else (if t102 = 2 then (if (t112 == 0 && (t113 == 0 && (t114 == 0 && (t115.toList == ([] : List UInt8))))) = true then (if (t118 == t112 && (t119 == t113 && (t120 == t114 && (t121.toList == t115.toList)))) = true then (if (t124 == t112 && (t125 == t113 && (t126 == t114 && (t127.toList == t115.toList)))) = true then (if ((t116 == 0) == true) = true then (if t122 = t116 then (if t116 = 0 then (if t128 = 0 then (some (bt130.2.2.2.2 == 5)) else (if t128 = 5 then (some (bt130.2.2.2.2 == 5)) else (none))) else (if t116 = 5 then (if t128 = 0 then (some (bt130.2.2.2.2 == 5)) else (if t128 = 5 then (some (bt130.2.2.2.2 == 5)) else (none))) else (none))) else (none)) else (none)) else (none)) else (none)) else (none)) else (if (t112 == 0 && (t113 == 0 && (t114 == 0 && (t115.toList == ([] : List UInt8))))) = true then (if (t118 == t112 && (t119 == t113 && (t120 == t114 && (t121.toList == t115.toList)))) = true then (if (t124 == t112 && (t125 == t113 && (t126 == t114 && (t127.toList == t115.toList)))) = true then (if ((t116 == 0) == (t102 == 3)) = true then (if t122 = t116 then (if t116 = 0 then (if t128 = 0 then (some (bt130.2.2.2.2 == 5)) else (if t128 = 5 then (some (bt130.2.2.2.2 == 5)) else (none))) else (if t116 = 5 then (if t128 = 0 then (some (bt130.2.2.2.2 == 5)) else (if t128 = 5 then (some (bt130.2.2.2.2 == 5)) else (none))) else (none))) else (none)) else (none)) else (none)) else (none)) else (none))))) = some r := H
          have A15 := Aside0.mk A150
          clear A150
          replace H := Option.bind_eq_some_iff.mp H
          obtain ⟨⟨t130, t131, t132, t133, t134⟩, A160, H⟩ := H
          replace H : (if t102 = 0 then (if (t112 == 0 && (t113 == 0 && (t114 == 0 && (t115.toList == ([] : List UInt8))))) = true then (if (t118 == t112 && (t119 == t113 && (t120 == t114 && (t121.toList == t115.toList)))) = true then (if (t124 == t112 && (t125 == t113 && (t126 == t114 && (t127.toList == t115.toList)))) = true then (if ((t116 == 0) == true) = true then (if t122 = t116 then (if t116 = 0 then (if t128 = 0 then (some (t134 == 5)) else (if t128 = 5 then (some (t134 == 5)) else (none))) else (if t116 = 5 then (if t128 = 0 then (some (t134 == 5)) else (if t128 = 5 then (some (t134 == 5)) else (none))) else (none))) else (none)) else (none)) else (none)) else (none)) else (none)) else (if t102 = 2 then (if (t112 == 0 && (t113 == 0 && (t114 == 0 && (t115.toList == ([] : List UInt8))))) = true then (if (t118 == t112 && (t119 == t113 && (t120 == t114 && (t121.toList == t115.toList)))) = true then (if (t124 == t112 && (t125 == t113 && (t126 == t114 && (t127.toList == t115.toList)))) = true then (if ((t116 == 0) == true) = true then (if t122 = t116 then (if t116 = 0 then (if t128 = 0 then (some (t134 == 5)) else (if t128 = 5 then (some (t134 == 5)) else (none))) else (if t116 = 5 then (if t128 = 0 then (some (t134 == 5)) else (if t128 = 5 then (some (t134 == 5)) else (none))) else (none))) else (none)) else (none)) else (none)) else (none)) else (none)) else (if (t112 == 0 && (t113 == 0 && (t114 == 0 && (t115.toList == ([] : List UInt8))))) = true then (if (t118 == t112 && (t119 == t113 && (t120 == t114 && (t121.toList == t115.toList)))) = true then (if (t124 == t112 && (t125 == t113 && (t126 == t114 && (t127.toList == t115.toList)))) = true then (if ((t116 == 0) == (t102 == 3)) = true then (if t122 = t116 then (if t116 = 0 then (if t128 = 0 then (some (t134 == 5)) else (if t128 = 5 then (some (t134 == 5)) else (none))) else (if t116 = 5 then (if t128 = 0 then (some (t134 == 5)) else (if t128 = 5 then (some (t134 == 5)) else (none))) else (none))) else (none)) else (none)) else (none)) else (none)) else (none)))) = some r := H
          have A16 := Aside0.mk A160
          clear A160
          go_enter Try.func6, Try.ntmps6
          go_upto_region 11 with (first | ((with_reducible refine gate_callee (f := 13) rfl ?_); refine goesL_ (some 20) rfl rfl Try.func13 (by kernel_rfl) rfl #[] rfl (by (try simp only [List.map_toArray, List.map_cons, List.map_nil]); first | done | rfl | (simp only [List.length_drop, List.length_take]; rfl)) ?_; (with_reducible refine (federationlaw1_known.calls k  true _ A5.out).mono ?_); rintro e w25 ⟨rfl, hb⟩; refine ⟨_, rfl, ?_⟩; have n0_ := Aside0.mk (below_step (by repeat (first | (with_reducible first | exact HB.out | apply below_alloc | apply pw_below_drewN | apply below_drew1) | exact HB.out)) hb); clear HB; have HB := n0_; clear n0_; (try clear hb); (try clear hb2); (try clear hk); (try clear hi)) | ((with_reducible refine gate_callee (f := 14) rfl ?_); refine goesL_ (some 28) rfl rfl Try.func14 (by kernel_rfl) rfl #[.int .i64 a0, .int .i64 a1, .string a2] rfl (by (try simp only [List.map_toArray, List.map_cons, List.map_nil]); first | done | rfl | (simp only [List.length_drop, List.length_take]; rfl)) ?_; (with_reducible refine (federationlaw1_Make.calls k a0 a1 a2 t102 t103 t104 t105 _ A9.out).mono ?_); rintro e w26 ⟨rfl, hb⟩; refine ⟨_, rfl, ?_⟩; have n0_ := Aside0.mk (below_step (by repeat (first | (with_reducible first | exact HB.out | apply below_alloc | apply pw_below_drewN | apply below_drew1) | exact HB.out)) hb); clear HB; have HB := n0_; clear n0_; (try clear hb); (try clear hb2); (try clear hk); (try clear hi)) | ((with_reducible refine gate_dst (N := 9) rfl ?_); refine box_event ?hg (N := 9) ?hd (cs := #[.int .i64 0, .int .i64 0, .int .i64 0, .string (⟨#[]⟩ : ByteArray)]) (t := 23) ?hr ?_; (case hd => rfl); (case hg => rfl); (case hr => first | (go_simp; done) | (go_simp; rfl)); intro gb106 hg w27 hbox hb; have n0_ := Aside0.mk (below_step (by repeat (first | (with_reducible first | exact HB.out | apply below_alloc | apply pw_below_drewN | apply below_drew1) | exact HB.out)) hb); have n1_ := Aside0.mk (hbox); have n2_ := Aside0.mk ((by rw [hg]; exact (below_size (by repeat (first | (with_reducible first | exact HB.out | apply below_alloc | apply pw_below_drewN | apply below_drew1) | exact HB.out))) : w.heap.size ≤ gb106)); have n3_ := Aside0.mk ((by rw [hg]; exact (below_size (by repeat (first | (with_reducible first | exact HB.out | apply below_alloc | apply pw_below_drewN | apply below_drew1) | exact HB.out))) : w.heap.size ≤ gb106)); clear HB; have HB := n0_; have BK106 := n1_; have GW106 := n2_; have GE106 := n3_; clear n0_ n1_ n2_ n3_; clear hb hbox hg; have hcz28_0 : w27.cell? ⟨gb106, 0, none⟩ = some (.int .i64 0) := (blk_cell BK106.out 0).trans rfl; have hcz28_1 : w27.cell? ⟨gb106, 1, none⟩ = some (.int .i64 0) := (blk_cell BK106.out 1).trans rfl; have hcz28_2 : w27.cell? ⟨gb106, 2, none⟩ = some (.int .i64 0) := (blk_cell BK106.out 2).trans rfl; have hcz28_3 : w27.cell? ⟨gb106, 3, none⟩ = some (.string (⟨#[]⟩ : ByteArray)) := (blk_cell BK106.out 3).trans rfl; have hfz28_0 := blk_frozen BK106.out 0; have hfz28_1 := blk_frozen BK106.out 1; have hfz28_2 := blk_frozen BK106.out 2; have hfz28_3 := blk_frozen BK106.out 3) | ((with_reducible refine gate_dst (N := 29) rfl ?_); refine Kd.R_lit (Kd.int .i64) _ 3 ?hg (N := 29) ?hd (xs := ([6, 7, 8] : List Int)) (inner := [.int .i64 6, .int .i64 7, .int .i64 8]) (ok := fun _ => True) (okp := fun _ => True) ?hr ?hp (fun _ hk => hk) trivial (Below.refl _ _) (Nat.le_refl _) (by simp) ?_; (case hd => rfl); (case hg => rfl); (case hr => first | (go_simp; done) | (go_simp; rfl)); (case hp => exact (Reps.one (show Kd.M (Kd.int .i64) _ _ _ 6 [.int .i64 6] from rfl) (Reps.one (show Kd.M (Kd.int .i64) _ _ _ 7 [.int .i64 7] from rfl) (Reps.one (show Kd.M (Kd.int .i64) _ _ _ 8 [.int .i64 8] from rfl) (Reps.none _ _))))); intro v108 w29 ho30 hb hg_ hnew_; clear hg_ hnew_; (first | rw [← Ny107.out] at ho30 | (simp only [Int.reduceToNat] at ho30; rw [← Ny107.out] at ho30)); have n0_ := Aside0.mk (Kd.R_lower ho30 (below_size (by repeat (first | (with_reducible first | exact HB.out | apply below_alloc | apply pw_below_drewN | apply below_drew1 | refine below_set ?_ GE106.out) | exact HB.out)))); have n1_ := Aside0.mk (blk_below (g := gb106) (o := .cells #[.int .i64 t102, .int .i64 t103, .int .i64 t104, .string t105] 23 (0, 0)) (by (with_reducible repeat (first | refine blk_drewN ?_ _ | refine blk_drew ?_ | refine blk_alloc ?_ _)); refine blk_put (cs := #[.int .i64 t102, .int .i64 t103, .int .i64 t104, .string (⟨#[]⟩ : ByteArray)]) ?_ 3 _ rfl; (with_reducible repeat (first | refine blk_drewN ?_ _ | refine blk_drew ?_ | refine blk_alloc ?_ _)); refine blk_put (cs := #[.int .i64 t102, .int .i64 t103, .int .i64 0, .string (⟨#[]⟩ : ByteArray)]) ?_ 2 _ rfl; (with_reducible repeat (first | refine blk_drewN ?_ _ | refine blk_drew ?_ | refine blk_alloc ?_ _)); refine blk_put (cs := #[.int .i64 t102, .int .i64 0, .int .i64 0, .string (⟨#[]⟩ : ByteArray)]) ?_ 1 _ rfl; (with_reducible repeat (first | refine blk_drewN ?_ _ | refine blk_drew ?_ | refine blk_alloc ?_ _)); refine blk_put (cs := #[.int .i64 0, .int .i64 0, .int .i64 0, .string (⟨#[]⟩ : ByteArray)]) ?_ 0 _ rfl; (with_reducible repeat (first | refine blk_drewN ?_ _ | refine blk_drew ?_ | refine blk_alloc ?_ _)); exact BK106.out) hb); have n2_ := Aside0.mk (below_step (by repeat (first | (with_reducible first | exact HB.out | apply below_alloc | apply pw_below_drewN | apply below_drew1 | refine below_set ?_ GE106.out) | exact HB.out)) hb); clear BK106; clear HB; have HO109 := n0_; have BK106 := n1_; have HB := n2_; clear n0_ n1_ n2_; clear hb ho30) | ((with_reducible refine gate_callee (f := 17) rfl ?_); refine goesL_ (some 31) rfl rfl Try.func17 (by kernel_rfl) rfl #[.int .i64 a3, .int .i64 3] rfl (by (try simp only [List.map_toArray, List.map_cons, List.map_nil]); first | done | rfl | (simp only [List.length_drop, List.length_take]; rfl)) ?_; (with_reducible refine (federationlaw1_within.calls a3 3 t110 _ A10.out).mono ?_); rintro e w' ⟨rfl, ⟨nd, rfl⟩⟩; refine ⟨_, rfl, ?_⟩; (try (rw [drewN_self w29]; generalize hq_ : World.drewN w29 _ = w29; have n0_ : Aside0 (Kd.R (Kd.int .i64) 3 w29 w.heap.size (fun _ => True) v108 y107) := ⟨by rw [← hq_]; exact (by (with_reducible repeat (first | apply Kd.R_alloc | apply Kd.R_drewN | apply Kd.R_drew)); exact HO109.out)⟩; have n1_ : Aside0 (w29.heap[gb106]? = some (.cells #[.int .i64 t102, .int .i64 t103, .int .i64 t104, .string t105] 23 (0, 0))) := ⟨by rw [← hq_]; exact (by (with_reducible repeat (first | refine blk_drewN ?_ _ | refine blk_drew ?_ | refine blk_alloc ?_ _)); exact BK106.out)⟩; have n2_ : Aside0 (Below w.heap.size w w29) := ⟨by rw [← hq_]; exact (by repeat (first | (with_reducible first | exact HB.out | apply below_alloc | apply pw_below_drewN | apply below_drew1 | refine below_set ?_ GE106.out) | exact HB.out))⟩; clear HO109 BK106 HB hq_; have HO109 := n0_; have BK106 := n1_; have HB := n2_; clear n0_ n1_ n2_)); (try have hcu31_0 : w29.cell? ⟨gb106, 0, none⟩ = some (.int .i64 t102) := (blk_cell BK106.out 0).trans rfl); (try have hcu31_1 : w29.cell? ⟨gb106, 1, none⟩ = some (.int .i64 t103) := (blk_cell BK106.out 1).trans rfl); (try have hcu31_2 : w29.cell? ⟨gb106, 2, none⟩ = some (.int .i64 t104) := (blk_cell BK106.out 2).trans rfl); (try have hcu31_3 : w29.cell? ⟨gb106, 3, none⟩ = some (.string t105) := (blk_cell BK106.out 3).trans rfl); (try have hfu31_0 := blk_frozen BK106.out 0); (try have hfu31_1 := blk_frozen BK106.out 1); (try have hfu31_2 := blk_frozen BK106.out 2); (try have hfu31_3 := blk_frozen BK106.out 3); obtain ⟨Ao32, co32, eo32⟩ := Kd.R_slice HO109.out; subst eo32; have p111 : 0 ≤ (t110 : Int) := of_decide_eq_true (by first | (with_reducible assumption) | assumption); have q111 : t110 < (y107.length : Int) := of_decide_eq_true (by first | (with_reducible assumption) | assumption); obtain ⟨ad111, e111, hx111_0⟩ := Kd.at_int (Kd.R_reads' HO109.out).2.2 t110 p111 q111; cases e111; replace p111 := eq_true p111; replace q111 := eq_true q111; have hcz33_0 : w29.cell? ⟨gb106, 0, none⟩ = some (.int .i64 t102) := (blk_cell BK106.out 0).trans rfl; have hcz33_1 : w29.cell? ⟨gb106, 1, none⟩ = some (.int .i64 t103) := (blk_cell BK106.out 1).trans rfl; have hcz33_2 : w29.cell? ⟨gb106, 2, none⟩ = some (.int .i64 t104) := (blk_cell BK106.out 2).trans rfl; have hcz33_3 : w29.cell? ⟨gb106, 3, none⟩ = some (.string t105) := (blk_cell BK106.out 3).trans rfl; have hfz33_0 := blk_frozen BK106.out 0; have hfz33_1 := blk_frozen BK106.out 1; have hfz33_2 := blk_frozen BK106.out 2; have hfz33_3 := blk_frozen BK106.out 3) | ((with_reducible refine gate_callee (f := 20) rfl ?_); refine goesL_ (some 38) rfl rfl Try.func20 (by kernel_rfl) rfl #[.int .i64 (rd y107 t110), .agg #[.int .i64 t102, .int .i64 t103, .int .i64 t104, .string t105], .agg #[.int .i64 0, .int .i64 0, .int .i64 0, .string (⟨#[]⟩ : ByteArray)]] rfl (by (try simp only [List.map_toArray, List.map_cons, List.map_nil]); first | done | rfl | (simp only [List.length_drop, List.length_take]; rfl)) ?_; (with_reducible refine (val_Reckon.calls k (rd y107 t110) t102 t103 t104 t105 0 0 0 (⟨#[]⟩ : ByteArray) t112 t113 t114 t115 t116 _ A13.out).mono ?_); rintro e w34 ⟨rfl, hb⟩; refine ⟨_, rfl, ?_⟩; have n0_ := Aside0.mk (Kd.R_below (by (with_reducible repeat (first | apply Kd.R_alloc | apply Kd.R_drewN | apply Kd.R_drew)); exact HO109.out) hb); have n1_ := Aside0.mk (blk_below (g := gb106) (o := .cells #[.int .i64 t102, .int .i64 t103, .int .i64 t104, .string t105] 23 (0, 0)) (by (with_reducible repeat (first | refine blk_drewN ?_ _ | refine blk_drew ?_ | refine blk_alloc ?_ _)); exact BK106.out) hb); have n2_ := Aside0.mk (below_step (by repeat (first | (with_reducible first | exact HB.out | apply below_alloc | apply pw_below_drewN | apply below_drew1 | refine below_set ?_ GE106.out) | exact HB.out)) hb); clear HO109; clear BK106; clear HB; have HO109 := n0_; have BK106 := n1_; have HB := n2_; clear n0_ n1_ n2_; (try clear hb); (try clear hb2); (try clear hk); (try clear hi)) | ((with_reducible refine gate_dst (N := 11) rfl ?_); refine box_event ?hg (N := 11) ?hd (cs := #[.int .i64 0, .int .i64 0, .int .i64 0, .string (⟨#[]⟩ : ByteArray)]) (t := 23) ?hr ?_; (case hd => rfl); (case hg => rfl); (case hr => first | (go_simp; done) | (go_simp; rfl)); intro gb117 hg w35 hbox hb; have n0_ := Aside0.mk (Kd.R_below (by (with_reducible repeat (first | apply Kd.R_alloc | apply Kd.R_drewN | apply Kd.R_drew)); exact HO109.out) hb); have n1_ := Aside0.mk (blk_below (g := gb106) (o := .cells #[.int .i64 t102, .int .i64 t103, .int .i64 t104, .string t105] 23 (0, 0)) (by (with_reducible repeat (first | refine blk_drewN ?_ _ | refine blk_drew ?_ | refine blk_alloc ?_ _)); exact BK106.out) hb); have n2_ := Aside0.mk (below_step (by repeat (first | (with_reducible first | exact HB.out | apply below_alloc | apply pw_below_drewN | apply below_drew1 | refine below_set ?_ GE106.out) | exact HB.out)) hb); have n3_ := Aside0.mk (hbox); have n4_ := Aside0.mk ((by rw [hg]; exact (below_size (by repeat (first | (with_reducible first | exact HB.out | apply below_alloc | apply pw_below_drewN | apply below_drew1 | refine below_set ?_ GE106.out) | exact HB.out))) : w.heap.size ≤ gb117)); have n5_ := Aside0.mk ((by rw [hg]; exact (below_size (by repeat (first | (with_reducible first | exact HB.out | apply below_alloc | apply pw_below_drewN | apply below_drew1 | refine below_set ?_ GE106.out) | exact HB.out))) : w.heap.size ≤ gb117)); have n6_ := Aside0.mk ((by rw [hg]; exact Nat.ne_of_lt (blk_lt (g := gb106) (o := .cells #[.int .i64 t102, .int .i64 t103, .int .i64 t104, .string t105] 23 (0, 0)) (by (with_reducible repeat (first | refine blk_drewN ?_ _ | refine blk_drew ?_ | refine blk_alloc ?_ _)); exact BK106.out)) : gb106 ≠ gb117)); have n7_ := Aside0.mk ((by rw [hg]; exact Nat.ne_of_gt (blk_lt (g := gb106) (o := .cells #[.int .i64 t102, .int .i64 t103, .int .i64 t104, .string t105] 23 (0, 0)) (by (with_reducible repeat (first | refine blk_drewN ?_ _ | refine blk_drew ?_ | refine blk_alloc ?_ _)); exact BK106.out)) : gb117 ≠ gb106)); clear HO109; clear BK106; clear HB; have HO109 := n0_; have BK106 := n1_; have HB := n2_; have BK117 := n3_; have GW117 := n4_; have GE117 := n5_; have NB106_117 := n6_; have NB117_106 := n7_; clear n0_ n1_ n2_ n3_ n4_ n5_ n6_ n7_; clear hb hbox hg; have hnb36 := NB117_106.out; have hnc36 := NB106_117.out; have hcz37_0 : w35.cell? ⟨gb117, 0, none⟩ = some (.int .i64 0) := (blk_cell BK117.out 0).trans rfl; have hcz37_1 : w35.cell? ⟨gb117, 1, none⟩ = some (.int .i64 0) := (blk_cell BK117.out 1).trans rfl; have hcz37_2 : w35.cell? ⟨gb117, 2, none⟩ = some (.int .i64 0) := (blk_cell BK117.out 2).trans rfl; have hcz37_3 : w35.cell? ⟨gb117, 3, none⟩ = some (.string (⟨#[]⟩ : ByteArray)) := (blk_cell BK117.out 3).trans rfl; have hfz37_0 := blk_frozen BK117.out 0; have hfz37_1 := blk_frozen BK117.out 1; have hfz37_2 := blk_frozen BK117.out 2; have hfz37_3 := blk_frozen BK117.out 3; have hcz38_0 : w35.cell? ⟨gb106, 0, none⟩ = some (.int .i64 t102) := (blk_cell BK106.out 0).trans rfl; have hcz38_1 : w35.cell? ⟨gb106, 1, none⟩ = some (.int .i64 t103) := (blk_cell BK106.out 1).trans rfl; have hcz38_2 : w35.cell? ⟨gb106, 2, none⟩ = some (.int .i64 t104) := (blk_cell BK106.out 2).trans rfl; have hcz38_3 : w35.cell? ⟨gb106, 3, none⟩ = some (.string t105) := (blk_cell BK106.out 3).trans rfl; have hfz38_0 := blk_frozen BK106.out 0; have hfz38_1 := blk_frozen BK106.out 1; have hfz38_2 := blk_frozen BK106.out 2; have hfz38_3 := blk_frozen BK106.out 3) | ((with_reducible refine gate_callee (f := 20) rfl ?_); refine goesL_ (some 45) rfl rfl Try.func20 (by kernel_rfl) rfl #[.int .i64 (rd y107 t110), .agg #[.int .i64 0, .int .i64 0, .int .i64 0, .string (⟨#[]⟩ : ByteArray)], .agg #[.int .i64 t102, .int .i64 t103, .int .i64 t104, .string t105]] rfl (by (try simp only [List.map_toArray, List.map_cons, List.map_nil]); first | done | rfl | (simp only [List.length_drop, List.length_take]; rfl)) ?_; (with_reducible refine (val_Reckon.calls k (rd y107 t110) 0 0 0 (⟨#[]⟩ : ByteArray) t102 t103 t104 t105 t118 t119 t120 t121 t122 _ A14.out).mono ?_); rintro e w39 ⟨rfl, hb⟩; refine ⟨_, rfl, ?_⟩; have n0_ := Aside0.mk (Kd.R_below (by (with_reducible repeat (first | apply Kd.R_alloc | apply Kd.R_drewN | apply Kd.R_drew)); exact (Kd.R_mono (Kd.R_far (p := ⟨gb117, 3, none⟩) (Kd.R_far (p := ⟨gb117, 2, none⟩) (Kd.R_far (p := ⟨gb117, 1, none⟩) (Kd.R_far (p := ⟨gb117, 0, none⟩) (Kd.R_types HO109.out BK117.out (by decide)) (fun _ hk => hk.2) (.int .i64 t112)) (fun _ hk => hk.2) (.int .i64 t113)) (fun _ hk => hk.2) (.int .i64 t114)) (fun _ hk => hk.2) (.string t115)) (fun _ h_ => h_.1))) hb); have n1_ := Aside0.mk (blk_below (g := gb106) (o := .cells #[.int .i64 t102, .int .i64 t103, .int .i64 t104, .string t105] 23 (0, 0)) (by (with_reducible repeat (first | refine blk_drewN ?_ _ | refine blk_drew ?_ | refine blk_alloc ?_ _)); refine blk_far ?_ NB106_117.out _; (with_reducible repeat (first | refine blk_drewN ?_ _ | refine blk_drew ?_ | refine blk_alloc ?_ _)); refine blk_far ?_ NB106_117.out _; (with_reducible repeat (first | refine blk_drewN ?_ _ | refine blk_drew ?_ | refine blk_alloc ?_ _)); refine blk_far ?_ NB106_117.out _; (with_reducible repeat (first | refine blk_drewN ?_ _ | refine blk_drew ?_ | refine blk_alloc ?_ _)); refine blk_far ?_ NB106_117.out _; (with_reducible repeat (first | refine blk_drewN ?_ _ | refine blk_drew ?_ | refine blk_alloc ?_ _)); exact BK106.out) hb); have n2_ := Aside0.mk (blk_below (g := gb117) (o := .cells #[.int .i64 t112, .int .i64 t113, .int .i64 t114, .string t115] 23 (0, 0)) (by (with_reducible repeat (first | refine blk_drewN ?_ _ | refine blk_drew ?_ | refine blk_alloc ?_ _)); refine blk_put (cs := #[.int .i64 t112, .int .i64 t113, .int .i64 t114, .string (⟨#[]⟩ : ByteArray)]) ?_ 3 _ rfl; (with_reducible repeat (first | refine blk_drewN ?_ _ | refine blk_drew ?_ | refine blk_alloc ?_ _)); refine blk_put (cs := #[.int .i64 t112, .int .i64 t113, .int .i64 0, .string (⟨#[]⟩ : ByteArray)]) ?_ 2 _ rfl; (with_reducible repeat (first | refine blk_drewN ?_ _ | refine blk_drew ?_ | refine blk_alloc ?_ _)); refine blk_put (cs := #[.int .i64 t112, .int .i64 0, .int .i64 0, .string (⟨#[]⟩ : ByteArray)]) ?_ 1 _ rfl; (with_reducible repeat (first | refine blk_drewN ?_ _ | refine blk_drew ?_ | refine blk_alloc ?_ _)); refine blk_put (cs := #[.int .i64 0, .int .i64 0, .int .i64 0, .string (⟨#[]⟩ : ByteArray)]) ?_ 0 _ rfl; (with_reducible repeat (first | refine blk_drewN ?_ _ | refine blk_drew ?_ | refine blk_alloc ?_ _)); exact BK117.out) hb); have n3_ := Aside0.mk (below_step (by repeat (first | (with_reducible first | exact HB.out | apply below_alloc | apply pw_below_drewN | apply below_drew1 | refine below_set ?_ GE106.out | refine below_set ?_ GE117.out) | exact HB.out)) hb); clear HO109; clear BK106; clear BK117; clear HB; have HO109 := n0_; have BK106 := n1_; have BK117 := n2_; have HB := n3_; clear n0_ n1_ n2_ n3_; (try clear hb); (try clear hb2); (try clear hk); (try clear hi)) | ((with_reducible refine gate_dst (N := 13) rfl ?_); refine box_event ?hg (N := 13) ?hd (cs := #[.int .i64 0, .int .i64 0, .int .i64 0, .string (⟨#[]⟩ : ByteArray)]) (t := 23) ?hr ?_; (case hd => rfl); (case hg => rfl); (case hr => first | (go_simp; done) | (go_simp; rfl)); intro gb123 hg w40 hbox hb; have n0_ := Aside0.mk (Kd.R_below (by (with_reducible repeat (first | apply Kd.R_alloc | apply Kd.R_drewN | apply Kd.R_drew)); exact HO109.out) hb); have n1_ := Aside0.mk (blk_below (g := gb106) (o := .cells #[.int .i64 t102, .int .i64 t103, .int .i64 t104, .string t105] 23 (0, 0)) (by (with_reducible repeat (first | refine blk_drewN ?_ _ | refine blk_drew ?_ | refine blk_alloc ?_ _)); exact BK106.out) hb); have n2_ := Aside0.mk (blk_below (g := gb117) (o := .cells #[.int .i64 t112, .int .i64 t113, .int .i64 t114, .string t115] 23 (0, 0)) (by (with_reducible repeat (first | refine blk_drewN ?_ _ | refine blk_drew ?_ | refine blk_alloc ?_ _)); exact BK117.out) hb); have n3_ := Aside0.mk (below_step (by repeat (first | (with_reducible first | exact HB.out | apply below_alloc | apply pw_below_drewN | apply below_drew1 | refine below_set ?_ GE106.out | refine below_set ?_ GE117.out) | exact HB.out)) hb); have n4_ := Aside0.mk (hbox); have n5_ := Aside0.mk ((by rw [hg]; exact (below_size (by repeat (first | (with_reducible first | exact HB.out | apply below_alloc | apply pw_below_drewN | apply below_drew1 | refine below_set ?_ GE106.out | refine below_set ?_ GE117.out) | exact HB.out))) : w.heap.size ≤ gb123)); have n6_ := Aside0.mk ((by rw [hg]; exact (below_size (by repeat (first | (with_reducible first | exact HB.out | apply below_alloc | apply pw_below_drewN | apply below_drew1 | refine below_set ?_ GE106.out | refine below_set ?_ GE117.out) | exact HB.out))) : w.heap.size ≤ gb123)); have n7_ := Aside0.mk ((by rw [hg]; exact Nat.ne_of_lt (blk_lt (g := gb106) (o := .cells #[.int .i64 t102, .int .i64 t103, .int .i64 t104, .string t105] 23 (0, 0)) (by (with_reducible repeat (first | refine blk_drewN ?_ _ | refine blk_drew ?_ | refine blk_alloc ?_ _)); exact BK106.out)) : gb106 ≠ gb123)); have n8_ := Aside0.mk ((by rw [hg]; exact Nat.ne_of_gt (blk_lt (g := gb106) (o := .cells #[.int .i64 t102, .int .i64 t103, .int .i64 t104, .string t105] 23 (0, 0)) (by (with_reducible repeat (first | refine blk_drewN ?_ _ | refine blk_drew ?_ | refine blk_alloc ?_ _)); exact BK106.out)) : gb123 ≠ gb106)); have n9_ := Aside0.mk ((by rw [hg]; exact Nat.ne_of_lt (blk_lt (g := gb117) (o := .cells #[.int .i64 t112, .int .i64 t113, .int .i64 t114, .string t115] 23 (0, 0)) (by (with_reducible repeat (first | refine blk_drewN ?_ _ | refine blk_drew ?_ | refine blk_alloc ?_ _)); exact BK117.out)) : gb117 ≠ gb123)); have n10_ := Aside0.mk ((by rw [hg]; exact Nat.ne_of_gt (blk_lt (g := gb117) (o := .cells #[.int .i64 t112, .int .i64 t113, .int .i64 t114, .string t115] 23 (0, 0)) (by (with_reducible repeat (first | refine blk_drewN ?_ _ | refine blk_drew ?_ | refine blk_alloc ?_ _)); exact BK117.out)) : gb123 ≠ gb117)); clear HO109; clear BK106; clear BK117; clear HB; have HO109 := n0_; have BK106 := n1_; have BK117 := n2_; have HB := n3_; have BK123 := n4_; have GW123 := n5_; have GE123 := n6_; have NB106_123 := n7_; have NB123_106 := n8_; have NB117_123 := n9_; have NB123_117 := n10_; clear n0_ n1_ n2_ n3_ n4_ n5_ n6_ n7_ n8_ n9_ n10_; clear hb hbox hg; have hnb41 := NB123_106.out; have hnc41 := NB106_123.out; have hnb42 := NB123_117.out; have hnc42 := NB117_123.out; have hcz43_0 : w40.cell? ⟨gb123, 0, none⟩ = some (.int .i64 0) := (blk_cell BK123.out 0).trans rfl; have hcz43_1 : w40.cell? ⟨gb123, 1, none⟩ = some (.int .i64 0) := (blk_cell BK123.out 1).trans rfl; have hcz43_2 : w40.cell? ⟨gb123, 2, none⟩ = some (.int .i64 0) := (blk_cell BK123.out 2).trans rfl; have hcz43_3 : w40.cell? ⟨gb123, 3, none⟩ = some (.string (⟨#[]⟩ : ByteArray)) := (blk_cell BK123.out 3).trans rfl; have hfz43_0 := blk_frozen BK123.out 0; have hfz43_1 := blk_frozen BK123.out 1; have hfz43_2 := blk_frozen BK123.out 2; have hfz43_3 := blk_frozen BK123.out 3; have hcz44_0 : w40.cell? ⟨gb106, 0, none⟩ = some (.int .i64 t102) := (blk_cell BK106.out 0).trans rfl; have hcz44_1 : w40.cell? ⟨gb106, 1, none⟩ = some (.int .i64 t103) := (blk_cell BK106.out 1).trans rfl; have hcz44_2 : w40.cell? ⟨gb106, 2, none⟩ = some (.int .i64 t104) := (blk_cell BK106.out 2).trans rfl; have hcz44_3 : w40.cell? ⟨gb106, 3, none⟩ = some (.string t105) := (blk_cell BK106.out 3).trans rfl; have hfz44_0 := blk_frozen BK106.out 0; have hfz44_1 := blk_frozen BK106.out 1; have hfz44_2 := blk_frozen BK106.out 2; have hfz44_3 := blk_frozen BK106.out 3) | ((with_reducible refine gate_callee (f := 20) rfl ?_); refine goesL_ (some 51) rfl rfl Try.func20 (by kernel_rfl) rfl #[.int .i64 4, .agg #[.int .i64 0, .int .i64 0, .int .i64 0, .string (⟨#[]⟩ : ByteArray)], .agg #[.int .i64 t102, .int .i64 t103, .int .i64 t104, .string t105]] rfl (by (try simp only [List.map_toArray, List.map_cons, List.map_nil]); first | done | rfl | (simp only [List.length_drop, List.length_take]; rfl)) ?_; (with_reducible refine (val_Reckon.calls k 4 0 0 0 (⟨#[]⟩ : ByteArray) t102 t103 t104 t105 t124 t125 t126 t127 t128 _ A15.out).mono ?_); rintro e w45 ⟨rfl, hb⟩; refine ⟨_, rfl, ?_⟩; have n0_ := Aside0.mk (Kd.R_below (by (with_reducible repeat (first | apply Kd.R_alloc | apply Kd.R_drewN | apply Kd.R_drew)); exact (Kd.R_mono (Kd.R_far (p := ⟨gb123, 3, none⟩) (Kd.R_far (p := ⟨gb123, 2, none⟩) (Kd.R_far (p := ⟨gb123, 1, none⟩) (Kd.R_far (p := ⟨gb123, 0, none⟩) (Kd.R_types HO109.out BK123.out (by decide)) (fun _ hk => hk.2) (.int .i64 t118)) (fun _ hk => hk.2) (.int .i64 t119)) (fun _ hk => hk.2) (.int .i64 t120)) (fun _ hk => hk.2) (.string t121)) (fun _ h_ => h_.1))) hb); have n1_ := Aside0.mk (blk_below (g := gb106) (o := .cells #[.int .i64 t102, .int .i64 t103, .int .i64 t104, .string t105] 23 (0, 0)) (by (with_reducible repeat (first | refine blk_drewN ?_ _ | refine blk_drew ?_ | refine blk_alloc ?_ _)); refine blk_far ?_ NB106_123.out _; (with_reducible repeat (first | refine blk_drewN ?_ _ | refine blk_drew ?_ | refine blk_alloc ?_ _)); refine blk_far ?_ NB106_123.out _; (with_reducible repeat (first | refine blk_drewN ?_ _ | refine blk_drew ?_ | refine blk_alloc ?_ _)); refine blk_far ?_ NB106_123.out _; (with_reducible repeat (first | refine blk_drewN ?_ _ | refine blk_drew ?_ | refine blk_alloc ?_ _)); refine blk_far ?_ NB106_123.out _; (with_reducible repeat (first | refine blk_drewN ?_ _ | refine blk_drew ?_ | refine blk_alloc ?_ _)); exact BK106.out) hb); have n2_ := Aside0.mk (blk_below (g := gb117) (o := .cells #[.int .i64 t112, .int .i64 t113, .int .i64 t114, .string t115] 23 (0, 0)) (by (with_reducible repeat (first | refine blk_drewN ?_ _ | refine blk_drew ?_ | refine blk_alloc ?_ _)); refine blk_far ?_ NB117_123.out _; (with_reducible repeat (first | refine blk_drewN ?_ _ | refine blk_drew ?_ | refine blk_alloc ?_ _)); refine blk_far ?_ NB117_123.out _; (with_reducible repeat (first | refine blk_drewN ?_ _ | refine blk_drew ?_ | refine blk_alloc ?_ _)); refine blk_far ?_ NB117_123.out _; (with_reducible repeat (first | refine blk_drewN ?_ _ | refine blk_drew ?_ | refine blk_alloc ?_ _)); refine blk_far ?_ NB117_123.out _; (with_reducible repeat (first | refine blk_drewN ?_ _ | refine blk_drew ?_ | refine blk_alloc ?_ _)); exact BK117.out) hb); have n3_ := Aside0.mk (blk_below (g := gb123) (o := .cells #[.int .i64 t118, .int .i64 t119, .int .i64 t120, .string t121] 23 (0, 0)) (by (with_reducible repeat (first | refine blk_drewN ?_ _ | refine blk_drew ?_ | refine blk_alloc ?_ _)); refine blk_put (cs := #[.int .i64 t118, .int .i64 t119, .int .i64 t120, .string (⟨#[]⟩ : ByteArray)]) ?_ 3 _ rfl; (with_reducible repeat (first | refine blk_drewN ?_ _ | refine blk_drew ?_ | refine blk_alloc ?_ _)); refine blk_put (cs := #[.int .i64 t118, .int .i64 t119, .int .i64 0, .string (⟨#[]⟩ : ByteArray)]) ?_ 2 _ rfl; (with_reducible repeat (first | refine blk_drewN ?_ _ | refine blk_drew ?_ | refine blk_alloc ?_ _)); refine blk_put (cs := #[.int .i64 t118, .int .i64 0, .int .i64 0, .string (⟨#[]⟩ : ByteArray)]) ?_ 1 _ rfl; (with_reducible repeat (first | refine blk_drewN ?_ _ | refine blk_drew ?_ | refine blk_alloc ?_ _)); refine blk_put (cs := #[.int .i64 0, .int .i64 0, .int .i64 0, .string (⟨#[]⟩ : ByteArray)]) ?_ 0 _ rfl; (with_reducible repeat (first | refine blk_drewN ?_ _ | refine blk_drew ?_ | refine blk_alloc ?_ _)); exact BK123.out) hb); have n4_ := Aside0.mk (below_step (by repeat (first | (with_reducible first | exact HB.out | apply below_alloc | apply pw_below_drewN | apply below_drew1 | refine below_set ?_ GE106.out | refine below_set ?_ GE117.out | refine below_set ?_ GE123.out) | exact HB.out)) hb); clear HO109; clear BK106; clear BK117; clear BK123; clear HB; have HO109 := n0_; have BK106 := n1_; have BK117 := n2_; have BK123 := n3_; have HB := n4_; clear n0_ n1_ n2_ n3_ n4_; (try clear hb); (try clear hb2); (try clear hk); (try clear hi)) | ((with_reducible refine gate_dst (N := 15) rfl ?_); refine box_event ?hg (N := 15) ?hd (cs := #[.int .i64 0, .int .i64 0, .int .i64 0, .string (⟨#[]⟩ : ByteArray)]) (t := 23) ?hr ?_; (case hd => rfl); (case hg => rfl); (case hr => first | (go_simp; done) | (go_simp; rfl)); intro gb129 hg w46 hbox hb; have n0_ := Aside0.mk (Kd.R_below (by (with_reducible repeat (first | apply Kd.R_alloc | apply Kd.R_drewN | apply Kd.R_drew)); exact HO109.out) hb); have n1_ := Aside0.mk (blk_below (g := gb106) (o := .cells #[.int .i64 t102, .int .i64 t103, .int .i64 t104, .string t105] 23 (0, 0)) (by (with_reducible repeat (first | refine blk_drewN ?_ _ | refine blk_drew ?_ | refine blk_alloc ?_ _)); exact BK106.out) hb); have n2_ := Aside0.mk (blk_below (g := gb117) (o := .cells #[.int .i64 t112, .int .i64 t113, .int .i64 t114, .string t115] 23 (0, 0)) (by (with_reducible repeat (first | refine blk_drewN ?_ _ | refine blk_drew ?_ | refine blk_alloc ?_ _)); exact BK117.out) hb); have n3_ := Aside0.mk (blk_below (g := gb123) (o := .cells #[.int .i64 t118, .int .i64 t119, .int .i64 t120, .string t121] 23 (0, 0)) (by (with_reducible repeat (first | refine blk_drewN ?_ _ | refine blk_drew ?_ | refine blk_alloc ?_ _)); exact BK123.out) hb); have n4_ := Aside0.mk (below_step (by repeat (first | (with_reducible first | exact HB.out | apply below_alloc | apply pw_below_drewN | apply below_drew1 | refine below_set ?_ GE106.out | refine below_set ?_ GE117.out | refine below_set ?_ GE123.out) | exact HB.out)) hb); have n5_ := Aside0.mk (hbox); have n6_ := Aside0.mk ((by rw [hg]; exact (below_size (by repeat (first | (with_reducible first | exact HB.out | apply below_alloc | apply pw_below_drewN | apply below_drew1 | refine below_set ?_ GE106.out | refine below_set ?_ GE117.out | refine below_set ?_ GE123.out) | exact HB.out))) : w.heap.size ≤ gb129)); have n7_ := Aside0.mk ((by rw [hg]; exact (below_size (by repeat (first | (with_reducible first | exact HB.out | apply below_alloc | apply pw_below_drewN | apply below_drew1 | refine below_set ?_ GE106.out | refine below_set ?_ GE117.out | refine below_set ?_ GE123.out) | exact HB.out))) : w.heap.size ≤ gb129)); have n8_ := Aside0.mk ((by rw [hg]; exact Nat.ne_of_lt (blk_lt (g := gb106) (o := .cells #[.int .i64 t102, .int .i64 t103, .int .i64 t104, .string t105] 23 (0, 0)) (by (with_reducible repeat (first | refine blk_drewN ?_ _ | refine blk_drew ?_ | refine blk_alloc ?_ _)); exact BK106.out)) : gb106 ≠ gb129)); have n9_ := Aside0.mk ((by rw [hg]; exact Nat.ne_of_gt (blk_lt (g := gb106) (o := .cells #[.int .i64 t102, .int .i64 t103, .int .i64 t104, .string t105] 23 (0, 0)) (by (with_reducible repeat (first | refine blk_drewN ?_ _ | refine blk_drew ?_ | refine blk_alloc ?_ _)); exact BK106.out)) : gb129 ≠ gb106)); have n10_ := Aside0.mk ((by rw [hg]; exact Nat.ne_of_lt (blk_lt (g := gb117) (o := .cells #[.int .i64 t112, .int .i64 t113, .int .i64 t114, .string t115] 23 (0, 0)) (by (with_reducible repeat (first | refine blk_drewN ?_ _ | refine blk_drew ?_ | refine blk_alloc ?_ _)); exact BK117.out)) : gb117 ≠ gb129)); have n11_ := Aside0.mk ((by rw [hg]; exact Nat.ne_of_gt (blk_lt (g := gb117) (o := .cells #[.int .i64 t112, .int .i64 t113, .int .i64 t114, .string t115] 23 (0, 0)) (by (with_reducible repeat (first | refine blk_drewN ?_ _ | refine blk_drew ?_ | refine blk_alloc ?_ _)); exact BK117.out)) : gb129 ≠ gb117)); have n12_ := Aside0.mk ((by rw [hg]; exact Nat.ne_of_lt (blk_lt (g := gb123) (o := .cells #[.int .i64 t118, .int .i64 t119, .int .i64 t120, .string t121] 23 (0, 0)) (by (with_reducible repeat (first | refine blk_drewN ?_ _ | refine blk_drew ?_ | refine blk_alloc ?_ _)); exact BK123.out)) : gb123 ≠ gb129)); have n13_ := Aside0.mk ((by rw [hg]; exact Nat.ne_of_gt (blk_lt (g := gb123) (o := .cells #[.int .i64 t118, .int .i64 t119, .int .i64 t120, .string t121] 23 (0, 0)) (by (with_reducible repeat (first | refine blk_drewN ?_ _ | refine blk_drew ?_ | refine blk_alloc ?_ _)); exact BK123.out)) : gb129 ≠ gb123)); clear HO109; clear BK106; clear BK117; clear BK123; clear HB; have HO109 := n0_; have BK106 := n1_; have BK117 := n2_; have BK123 := n3_; have HB := n4_; have BK129 := n5_; have GW129 := n6_; have GE129 := n7_; have NB106_129 := n8_; have NB129_106 := n9_; have NB117_129 := n10_; have NB129_117 := n11_; have NB123_129 := n12_; have NB129_123 := n13_; clear n0_ n1_ n2_ n3_ n4_ n5_ n6_ n7_ n8_ n9_ n10_ n11_ n12_ n13_; clear hb hbox hg; have hnb47 := NB129_106.out; have hnc47 := NB106_129.out; have hnb48 := NB129_117.out; have hnc48 := NB117_129.out; have hnb49 := NB129_123.out; have hnc49 := NB123_129.out; have hcz50_0 : w46.cell? ⟨gb129, 0, none⟩ = some (.int .i64 0) := (blk_cell BK129.out 0).trans rfl; have hcz50_1 : w46.cell? ⟨gb129, 1, none⟩ = some (.int .i64 0) := (blk_cell BK129.out 1).trans rfl; have hcz50_2 : w46.cell? ⟨gb129, 2, none⟩ = some (.int .i64 0) := (blk_cell BK129.out 2).trans rfl; have hcz50_3 : w46.cell? ⟨gb129, 3, none⟩ = some (.string (⟨#[]⟩ : ByteArray)) := (blk_cell BK129.out 3).trans rfl; have hfz50_0 := blk_frozen BK129.out 0; have hfz50_1 := blk_frozen BK129.out 1; have hfz50_2 := blk_frozen BK129.out 2; have hfz50_3 := blk_frozen BK129.out 3) | ((with_reducible refine gate_callee (f := 20) rfl ?_); refine goesL_ (some 58) rfl rfl Try.func20 (by kernel_rfl) rfl #[.int .i64 (rd y107 t110), .agg #[.int .i64 2, .int .i64 1, .int .i64 0, .string (⟨#[]⟩ : ByteArray)], .agg #[.int .i64 3, .int .i64 1, .int .i64 0, .string (⟨#[]⟩ : ByteArray)]] rfl (by (try simp only [List.map_toArray, List.map_cons, List.map_nil]); first | done | rfl | (simp only [List.length_drop, List.length_take]; rfl)) ?_; (with_reducible refine (val_Reckon.calls k (rd y107 t110) 2 1 0 (⟨#[]⟩ : ByteArray) 3 1 0 (⟨#[]⟩ : ByteArray) t130 t131 t132 t133 t134 _ A16.out).mono ?_); rintro e w51 ⟨rfl, hb⟩; refine ⟨_, rfl, ?_⟩; have n0_ := Aside0.mk (Kd.R_below (by (with_reducible repeat (first | apply Kd.R_alloc | apply Kd.R_drewN | apply Kd.R_drew)); exact (Kd.R_mono (Kd.R_far (p := ⟨gb129, 3, none⟩) (Kd.R_far (p := ⟨gb129, 2, none⟩) (Kd.R_far (p := ⟨gb129, 1, none⟩) (Kd.R_far (p := ⟨gb129, 0, none⟩) (Kd.R_types HO109.out BK129.out (by decide)) (fun _ hk => hk.2) (.int .i64 t124)) (fun _ hk => hk.2) (.int .i64 t125)) (fun _ hk => hk.2) (.int .i64 t126)) (fun _ hk => hk.2) (.string t127)) (fun _ h_ => h_.1))) hb); have n1_ := Aside0.mk (blk_below (g := gb106) (o := .cells #[.int .i64 t102, .int .i64 t103, .int .i64 t104, .string t105] 23 (0, 0)) (by (with_reducible repeat (first | refine blk_drewN ?_ _ | refine blk_drew ?_ | refine blk_alloc ?_ _)); refine blk_far ?_ NB106_129.out _; (with_reducible repeat (first | refine blk_drewN ?_ _ | refine blk_drew ?_ | refine blk_alloc ?_ _)); refine blk_far ?_ NB106_129.out _; (with_reducible repeat (first | refine blk_drewN ?_ _ | refine blk_drew ?_ | refine blk_alloc ?_ _)); refine blk_far ?_ NB106_129.out _; (with_reducible repeat (first | refine blk_drewN ?_ _ | refine blk_drew ?_ | refine blk_alloc ?_ _)); refine blk_far ?_ NB106_129.out _; (with_reducible repeat (first | refine blk_drewN ?_ _ | refine blk_drew ?_ | refine blk_alloc ?_ _)); exact BK106.out) hb); have n2_ := Aside0.mk (blk_below (g := gb117) (o := .cells #[.int .i64 t112, .int .i64 t113, .int .i64 t114, .string t115] 23 (0, 0)) (by (with_reducible repeat (first | refine blk_drewN ?_ _ | refine blk_drew ?_ | refine blk_alloc ?_ _)); refine blk_far ?_ NB117_129.out _; (with_reducible repeat (first | refine blk_drewN ?_ _ | refine blk_drew ?_ | refine blk_alloc ?_ _)); refine blk_far ?_ NB117_129.out _; (with_reducible repeat (first | refine blk_drewN ?_ _ | refine blk_drew ?_ | refine blk_alloc ?_ _)); refine blk_far ?_ NB117_129.out _; (with_reducible repeat (first | refine blk_drewN ?_ _ | refine blk_drew ?_ | refine blk_alloc ?_ _)); refine blk_far ?_ NB117_129.out _; (with_reducible repeat (first | refine blk_drewN ?_ _ | refine blk_drew ?_ | refine blk_alloc ?_ _)); exact BK117.out) hb); have n3_ := Aside0.mk (blk_below (g := gb123) (o := .cells #[.int .i64 t118, .int .i64 t119, .int .i64 t120, .string t121] 23 (0, 0)) (by (with_reducible repeat (first | refine blk_drewN ?_ _ | refine blk_drew ?_ | refine blk_alloc ?_ _)); refine blk_far ?_ NB123_129.out _; (with_reducible repeat (first | refine blk_drewN ?_ _ | refine blk_drew ?_ | refine blk_alloc ?_ _)); refine blk_far ?_ NB123_129.out _; (with_reducible repeat (first | refine blk_drewN ?_ _ | refine blk_drew ?_ | refine blk_alloc ?_ _)); refine blk_far ?_ NB123_129.out _; (with_reducible repeat (first | refine blk_drewN ?_ _ | refine blk_drew ?_ | refine blk_alloc ?_ _)); refine blk_far ?_ NB123_129.out _; (with_reducible repeat (first | refine blk_drewN ?_ _ | refine blk_drew ?_ | refine blk_alloc ?_ _)); exact BK123.out) hb); have n4_ := Aside0.mk (blk_below (g := gb129) (o := .cells #[.int .i64 t124, .int .i64 t125, .int .i64 t126, .string t127] 23 (0, 0)) (by (with_reducible repeat (first | refine blk_drewN ?_ _ | refine blk_drew ?_ | refine blk_alloc ?_ _)); refine blk_put (cs := #[.int .i64 t124, .int .i64 t125, .int .i64 t126, .string (⟨#[]⟩ : ByteArray)]) ?_ 3 _ rfl; (with_reducible repeat (first | refine blk_drewN ?_ _ | refine blk_drew ?_ | refine blk_alloc ?_ _)); refine blk_put (cs := #[.int .i64 t124, .int .i64 t125, .int .i64 0, .string (⟨#[]⟩ : ByteArray)]) ?_ 2 _ rfl; (with_reducible repeat (first | refine blk_drewN ?_ _ | refine blk_drew ?_ | refine blk_alloc ?_ _)); refine blk_put (cs := #[.int .i64 t124, .int .i64 0, .int .i64 0, .string (⟨#[]⟩ : ByteArray)]) ?_ 1 _ rfl; (with_reducible repeat (first | refine blk_drewN ?_ _ | refine blk_drew ?_ | refine blk_alloc ?_ _)); refine blk_put (cs := #[.int .i64 0, .int .i64 0, .int .i64 0, .string (⟨#[]⟩ : ByteArray)]) ?_ 0 _ rfl; (with_reducible repeat (first | refine blk_drewN ?_ _ | refine blk_drew ?_ | refine blk_alloc ?_ _)); exact BK129.out) hb); have n5_ := Aside0.mk (below_step (by repeat (first | (with_reducible first | exact HB.out | apply below_alloc | apply pw_below_drewN | apply below_drew1 | refine below_set ?_ GE106.out | refine below_set ?_ GE117.out | refine below_set ?_ GE123.out | refine below_set ?_ GE129.out) | exact HB.out)) hb); clear HO109; clear BK106; clear BK117; clear BK123; clear BK129; clear HB; have HO109 := n0_; have BK106 := n1_; have BK117 := n2_; have BK123 := n3_; have BK129 := n4_; have HB := n5_; clear n0_ n1_ n2_ n3_ n4_ n5_; (try clear hb); (try clear hb2); (try clear hk); (try clear hi)) | ((with_reducible refine gate_dst (N := 17) rfl ?_); refine box_event ?hg (N := 17) ?hd (cs := #[.int .i64 0, .int .i64 0, .int .i64 0, .string (⟨#[]⟩ : ByteArray)]) (t := 23) ?hr ?_; (case hd => rfl); (case hg => rfl); (case hr => first | (go_simp; done) | (go_simp; rfl)); intro gb135 hg w52 hbox hb; have n0_ := Aside0.mk (Kd.R_below (by (with_reducible repeat (first | apply Kd.R_alloc | apply Kd.R_drewN | apply Kd.R_drew)); exact HO109.out) hb); have n1_ := Aside0.mk (blk_below (g := gb106) (o := .cells #[.int .i64 t102, .int .i64 t103, .int .i64 t104, .string t105] 23 (0, 0)) (by (with_reducible repeat (first | refine blk_drewN ?_ _ | refine blk_drew ?_ | refine blk_alloc ?_ _)); exact BK106.out) hb); have n2_ := Aside0.mk (blk_below (g := gb117) (o := .cells #[.int .i64 t112, .int .i64 t113, .int .i64 t114, .string t115] 23 (0, 0)) (by (with_reducible repeat (first | refine blk_drewN ?_ _ | refine blk_drew ?_ | refine blk_alloc ?_ _)); exact BK117.out) hb); have n3_ := Aside0.mk (blk_below (g := gb123) (o := .cells #[.int .i64 t118, .int .i64 t119, .int .i64 t120, .string t121] 23 (0, 0)) (by (with_reducible repeat (first | refine blk_drewN ?_ _ | refine blk_drew ?_ | refine blk_alloc ?_ _)); exact BK123.out) hb); have n4_ := Aside0.mk (blk_below (g := gb129) (o := .cells #[.int .i64 t124, .int .i64 t125, .int .i64 t126, .string t127] 23 (0, 0)) (by (with_reducible repeat (first | refine blk_drewN ?_ _ | refine blk_drew ?_ | refine blk_alloc ?_ _)); exact BK129.out) hb); have n5_ := Aside0.mk (below_step (by repeat (first | (with_reducible first | exact HB.out | apply below_alloc | apply pw_below_drewN | apply below_drew1 | refine below_set ?_ GE106.out | refine below_set ?_ GE117.out | refine below_set ?_ GE123.out | refine below_set ?_ GE129.out) | exact HB.out)) hb); have n6_ := Aside0.mk (hbox); have n7_ := Aside0.mk ((by rw [hg]; exact (below_size (by repeat (first | (with_reducible first | exact HB.out | apply below_alloc | apply pw_below_drewN | apply below_drew1 | refine below_set ?_ GE106.out | refine below_set ?_ GE117.out | refine below_set ?_ GE123.out | refine below_set ?_ GE129.out) | exact HB.out))) : w.heap.size ≤ gb135)); have n8_ := Aside0.mk ((by rw [hg]; exact (below_size (by repeat (first | (with_reducible first | exact HB.out | apply below_alloc | apply pw_below_drewN | apply below_drew1 | refine below_set ?_ GE106.out | refine below_set ?_ GE117.out | refine below_set ?_ GE123.out | refine below_set ?_ GE129.out) | exact HB.out))) : w.heap.size ≤ gb135)); have n9_ := Aside0.mk ((by rw [hg]; exact Nat.ne_of_lt (blk_lt (g := gb106) (o := .cells #[.int .i64 t102, .int .i64 t103, .int .i64 t104, .string t105] 23 (0, 0)) (by (with_reducible repeat (first | refine blk_drewN ?_ _ | refine blk_drew ?_ | refine blk_alloc ?_ _)); exact BK106.out)) : gb106 ≠ gb135)); have n10_ := Aside0.mk ((by rw [hg]; exact Nat.ne_of_gt (blk_lt (g := gb106) (o := .cells #[.int .i64 t102, .int .i64 t103, .int .i64 t104, .string t105] 23 (0, 0)) (by (with_reducible repeat (first | refine blk_drewN ?_ _ | refine blk_drew ?_ | refine blk_alloc ?_ _)); exact BK106.out)) : gb135 ≠ gb106)); have n11_ := Aside0.mk ((by rw [hg]; exact Nat.ne_of_lt (blk_lt (g := gb117) (o := .cells #[.int .i64 t112, .int .i64 t113, .int .i64 t114, .string t115] 23 (0, 0)) (by (with_reducible repeat (first | refine blk_drewN ?_ _ | refine blk_drew ?_ | refine blk_alloc ?_ _)); exact BK117.out)) : gb117 ≠ gb135)); have n12_ := Aside0.mk ((by rw [hg]; exact Nat.ne_of_gt (blk_lt (g := gb117) (o := .cells #[.int .i64 t112, .int .i64 t113, .int .i64 t114, .string t115] 23 (0, 0)) (by (with_reducible repeat (first | refine blk_drewN ?_ _ | refine blk_drew ?_ | refine blk_alloc ?_ _)); exact BK117.out)) : gb135 ≠ gb117)); have n13_ := Aside0.mk ((by rw [hg]; exact Nat.ne_of_lt (blk_lt (g := gb123) (o := .cells #[.int .i64 t118, .int .i64 t119, .int .i64 t120, .string t121] 23 (0, 0)) (by (with_reducible repeat (first | refine blk_drewN ?_ _ | refine blk_drew ?_ | refine blk_alloc ?_ _)); exact BK123.out)) : gb123 ≠ gb135)); have n14_ := Aside0.mk ((by rw [hg]; exact Nat.ne_of_gt (blk_lt (g := gb123) (o := .cells #[.int .i64 t118, .int .i64 t119, .int .i64 t120, .string t121] 23 (0, 0)) (by (with_reducible repeat (first | refine blk_drewN ?_ _ | refine blk_drew ?_ | refine blk_alloc ?_ _)); exact BK123.out)) : gb135 ≠ gb123)); have n15_ := Aside0.mk ((by rw [hg]; exact Nat.ne_of_lt (blk_lt (g := gb129) (o := .cells #[.int .i64 t124, .int .i64 t125, .int .i64 t126, .string t127] 23 (0, 0)) (by (with_reducible repeat (first | refine blk_drewN ?_ _ | refine blk_drew ?_ | refine blk_alloc ?_ _)); exact BK129.out)) : gb129 ≠ gb135)); have n16_ := Aside0.mk ((by rw [hg]; exact Nat.ne_of_gt (blk_lt (g := gb129) (o := .cells #[.int .i64 t124, .int .i64 t125, .int .i64 t126, .string t127] 23 (0, 0)) (by (with_reducible repeat (first | refine blk_drewN ?_ _ | refine blk_drew ?_ | refine blk_alloc ?_ _)); exact BK129.out)) : gb135 ≠ gb129)); clear HO109; clear BK106; clear BK117; clear BK123; clear BK129; clear HB; have HO109 := n0_; have BK106 := n1_; have BK117 := n2_; have BK123 := n3_; have BK129 := n4_; have HB := n5_; have BK135 := n6_; have GW135 := n7_; have GE135 := n8_; have NB106_135 := n9_; have NB135_106 := n10_; have NB117_135 := n11_; have NB135_117 := n12_; have NB123_135 := n13_; have NB135_123 := n14_; have NB129_135 := n15_; have NB135_129 := n16_; clear n0_ n1_ n2_ n3_ n4_ n5_ n6_ n7_ n8_ n9_ n10_ n11_ n12_ n13_ n14_ n15_ n16_; clear hb hbox hg; have hnb53 := NB135_106.out; have hnc53 := NB106_135.out; have hnb54 := NB135_117.out; have hnc54 := NB117_135.out; have hnb55 := NB135_123.out; have hnc55 := NB123_135.out; have hnb56 := NB135_129.out; have hnc56 := NB129_135.out; have hcz57_0 : w52.cell? ⟨gb135, 0, none⟩ = some (.int .i64 0) := (blk_cell BK135.out 0).trans rfl; have hcz57_1 : w52.cell? ⟨gb135, 1, none⟩ = some (.int .i64 0) := (blk_cell BK135.out 1).trans rfl; have hcz57_2 : w52.cell? ⟨gb135, 2, none⟩ = some (.int .i64 0) := (blk_cell BK135.out 2).trans rfl; have hcz57_3 : w52.cell? ⟨gb135, 3, none⟩ = some (.string (⟨#[]⟩ : ByteArray)) := (blk_cell BK135.out 3).trans rfl; have hfz57_0 := blk_frozen BK135.out 0; have hfz57_1 := blk_frozen BK135.out 1; have hfz57_2 := blk_frozen BK135.out 2; have hfz57_3 := blk_frozen BK135.out 3; have hcz58_0 : w52.cell? ⟨gb106, 0, none⟩ = some (.int .i64 t102) := (blk_cell BK106.out 0).trans rfl; have hcz58_1 : w52.cell? ⟨gb106, 1, none⟩ = some (.int .i64 t103) := (blk_cell BK106.out 1).trans rfl; have hcz58_2 : w52.cell? ⟨gb106, 2, none⟩ = some (.int .i64 t104) := (blk_cell BK106.out 2).trans rfl; have hcz58_3 : w52.cell? ⟨gb106, 3, none⟩ = some (.string t105) := (blk_cell BK106.out 3).trans rfl; have hfz58_0 := blk_frozen BK106.out 0; have hfz58_1 := blk_frozen BK106.out 1; have hfz58_2 := blk_frozen BK106.out 2; have hfz58_3 := blk_frozen BK106.out 3; have hcz59_0 : w52.cell? ⟨gb117, 0, none⟩ = some (.int .i64 t112) := (blk_cell BK117.out 0).trans rfl; have hcz59_1 : w52.cell? ⟨gb117, 1, none⟩ = some (.int .i64 t113) := (blk_cell BK117.out 1).trans rfl; have hcz59_2 : w52.cell? ⟨gb117, 2, none⟩ = some (.int .i64 t114) := (blk_cell BK117.out 2).trans rfl; have hcz59_3 : w52.cell? ⟨gb117, 3, none⟩ = some (.string t115) := (blk_cell BK117.out 3).trans rfl; have hfz59_0 := blk_frozen BK117.out 0; have hfz59_1 := blk_frozen BK117.out 1; have hfz59_2 := blk_frozen BK117.out 2; have hfz59_3 := blk_frozen BK117.out 3; have hcz60_0 : w52.cell? ⟨gb123, 0, none⟩ = some (.int .i64 t118) := (blk_cell BK123.out 0).trans rfl; have hcz60_1 : w52.cell? ⟨gb123, 1, none⟩ = some (.int .i64 t119) := (blk_cell BK123.out 1).trans rfl; have hcz60_2 : w52.cell? ⟨gb123, 2, none⟩ = some (.int .i64 t120) := (blk_cell BK123.out 2).trans rfl; have hcz60_3 : w52.cell? ⟨gb123, 3, none⟩ = some (.string t121) := (blk_cell BK123.out 3).trans rfl; have hfz60_0 := blk_frozen BK123.out 0; have hfz60_1 := blk_frozen BK123.out 1; have hfz60_2 := blk_frozen BK123.out 2; have hfz60_3 := blk_frozen BK123.out 3; have hcz61_0 : w52.cell? ⟨gb129, 0, none⟩ = some (.int .i64 t124) := (blk_cell BK129.out 0).trans rfl; have hcz61_1 : w52.cell? ⟨gb129, 1, none⟩ = some (.int .i64 t125) := (blk_cell BK129.out 1).trans rfl; have hcz61_2 : w52.cell? ⟨gb129, 2, none⟩ = some (.int .i64 t126) := (blk_cell BK129.out 2).trans rfl; have hcz61_3 : w52.cell? ⟨gb129, 3, none⟩ = some (.string t127) := (blk_cell BK129.out 3).trans rfl; have hfz61_0 := blk_frozen BK129.out 0; have hfz61_1 := blk_frozen BK129.out 1; have hfz61_2 := blk_frozen BK129.out 2; have hfz61_3 := blk_frozen BK129.out 3))
          by_cases c17 : t102 = 0
          focus
            rw [if_pos c17] at H
            have c17b0 : (t102 == 0) = true := beq_iff_eq.mpr c17
            have c17b1 : (t102 != 0) = false := bne_eq_false_iff_eq.mpr c17
            clear c17
            by_cases c18 : (t112 == 0 && (t113 == 0 && (t114 == 0 && (t115.toList == ([] : List UInt8))))) = true
            focus
              rw [if_pos c18] at H
              have c18b0 : (t112 == 0 && (t113 == 0 && (t114 == 0 && (t115.toList == ([] : List UInt8))))) = true := c18
              have c18b7 := c18b0
              simp only [Bool.and_eq_true, beq_iff_eq] at c18b7
              have c18b8 := eq_true c18b7
              clear c18b7
              (try (have c18b1 : decide (t112 = 0 && (t113 == 0 && (t114 == 0 && (t115.toList == ([] : List UInt8))))) = true := by simpa using c18))
              (try (have c18b2 : (t112 == 0 && (t113 == 0 && (t114 == 0 && (t115.toList == ([] : List UInt8))))) = true := by simpa using c18))
              clear c18
              by_cases c19 : (t118 == t112 && (t119 == t113 && (t120 == t114 && (t121.toList == t115.toList)))) = true
              focus
                rw [if_pos c19] at H
                have c19b0 : (t118 == t112 && (t119 == t113 && (t120 == t114 && (t121.toList == t115.toList)))) = true := c19
                have c19b7 := c19b0
                simp only [Bool.and_eq_true, beq_iff_eq] at c19b7
                have c19b8 := eq_true c19b7
                clear c19b7
                (try (have c19b1 : decide (t118 = t112 && (t119 == t113 && (t120 == t114 && (t121.toList == t115.toList)))) = true := by simpa using c19))
                (try (have c19b2 : (t118 == t112 && (t119 == t113 && (t120 == t114 && (t121.toList == t115.toList)))) = true := by simpa using c19))
                clear c19
                by_cases c20 : (t124 == t112 && (t125 == t113 && (t126 == t114 && (t127.toList == t115.toList)))) = true
                focus
                  rw [if_pos c20] at H
                  have c20b0 : (t124 == t112 && (t125 == t113 && (t126 == t114 && (t127.toList == t115.toList)))) = true := c20
                  have c20b7 := c20b0
                  simp only [Bool.and_eq_true, beq_iff_eq] at c20b7
                  have c20b8 := eq_true c20b7
                  clear c20b7
                  (try (have c20b1 : decide (t124 = t112 && (t125 == t113 && (t126 == t114 && (t127.toList == t115.toList)))) = true := by simpa using c20))
                  (try (have c20b2 : (t124 == t112 && (t125 == t113 && (t126 == t114 && (t127.toList == t115.toList)))) = true := by simpa using c20))
                  clear c20
                  by_cases c21 : ((t116 == 0) == true) = true
                  focus
                    rw [if_pos c21] at H
                    have c21b0 : ((t116 == 0) == true) = true := c21
                    (try (have c21b1 : decide ((t116 == 0) = true) = true := by simpa using c21))
                    (try (have c21b2 : ((t116 == 0) == true) = true := by simpa using c21))
                    clear c21
                    by_cases c22 : t122 = t116
                    focus
                      rw [if_pos c22] at H
                      have c22b0 : (t122 == t116) = true := beq_iff_eq.mpr c22
                      have c22b1 : (t122 != t116) = false := bne_eq_false_iff_eq.mpr c22
                      clear c22
                      by_cases c23 : t116 = 0
                      focus
                        rw [if_pos c23] at H
                        have c23b0 : (t116 == 0) = true := beq_iff_eq.mpr c23
                        have c23b1 : (t116 != 0) = false := bne_eq_false_iff_eq.mpr c23
                        clear c23
                        by_cases c24 : t128 = 0
                        focus
                          rw [if_pos c24] at H
                          have c24b0 : (t128 == 0) = true := beq_iff_eq.mpr c24
                          have c24b1 : (t128 != 0) = false := bne_eq_false_iff_eq.mpr c24
                          clear c24
                          obtain rfl := Option.some.inj H
                        rotate_left
                        focus
                          rw [if_neg c24] at H
                          have c24b0 : (t128 == 0) = false := beq_eq_false_iff_ne.mpr c24
                          have c24b1 : (t128 != 0) = true := bne_iff_ne.mpr c24
                          by_cases c62 : t128 = 5
                          focus
                            rw [if_pos c62] at H
                            have c62b0 : (t128 == 5) = true := beq_iff_eq.mpr c62
                            have c62b1 : (t128 != 5) = false := bne_eq_false_iff_eq.mpr c62
                            clear c62
                            obtain rfl := Option.some.inj H
                          rotate_left
                          focus
                            rw [if_neg c62] at H
                            exact absurd H (by simp)
                        rotate_left
                      rotate_left 2
                      focus
                        rw [if_neg c23] at H
                        have c23b0 : (t116 == 0) = false := beq_eq_false_iff_ne.mpr c23
                        have c23b1 : (t116 != 0) = true := bne_iff_ne.mpr c23
                        by_cases c100 : t116 = 5
                        focus
                          rw [if_pos c100] at H
                          have c100b0 : (t116 == 5) = true := beq_iff_eq.mpr c100
                          have c100b1 : (t116 != 5) = false := bne_eq_false_iff_eq.mpr c100
                          clear c100
                          by_cases c101 : t128 = 0
                          focus
                            rw [if_pos c101] at H
                            have c101b0 : (t128 == 0) = true := beq_iff_eq.mpr c101
                            have c101b1 : (t128 != 0) = false := bne_eq_false_iff_eq.mpr c101
                            clear c101
                            obtain rfl := Option.some.inj H
                          rotate_left
                          focus
                            rw [if_neg c101] at H
                            have c101b0 : (t128 == 0) = false := beq_eq_false_iff_ne.mpr c101
                            have c101b1 : (t128 != 0) = true := bne_iff_ne.mpr c101
                            by_cases c139 : t128 = 5
                            focus
                              rw [if_pos c139] at H
                              have c139b0 : (t128 == 5) = true := beq_iff_eq.mpr c139
                              have c139b1 : (t128 != 5) = false := bne_eq_false_iff_eq.mpr c139
                              clear c139
                              obtain rfl := Option.some.inj H
                            rotate_left
                            focus
                              rw [if_neg c139] at H
                              exact absurd H (by simp)
                          rotate_left
                        rotate_left 2
                        focus
                          rw [if_neg c100] at H
                          exact absurd H (by simp)
                      rotate_left 2
                    rotate_left 4
                    focus
                      rw [if_neg c22] at H
                      exact absurd H (by simp)
                  rotate_left 4
                  focus
                    rw [if_neg c21] at H
                    exact absurd H (by simp)
                rotate_left 4
                focus
                  rw [if_neg c20] at H
                  exact absurd H (by simp)
              rotate_left 4
              focus
                rw [if_neg c19] at H
                exact absurd H (by simp)
            rotate_left 4
            focus
              rw [if_neg c18] at H
              exact absurd H (by simp)
          rotate_left 4
          focus
            rw [if_neg c17] at H
            have c17b0 : (t102 == 0) = false := beq_eq_false_iff_ne.mpr c17
            have c17b1 : (t102 != 0) = true := bne_iff_ne.mpr c17
            by_cases c177 : t102 = 2
            focus
              rw [if_pos c177] at H
              have c177b0 : (t102 == 2) = true := beq_iff_eq.mpr c177
              have c177b1 : (t102 != 2) = false := bne_eq_false_iff_eq.mpr c177
              clear c177
              by_cases c178 : (t112 == 0 && (t113 == 0 && (t114 == 0 && (t115.toList == ([] : List UInt8))))) = true
              focus
                rw [if_pos c178] at H
                have c178b0 : (t112 == 0 && (t113 == 0 && (t114 == 0 && (t115.toList == ([] : List UInt8))))) = true := c178
                have c178b7 := c178b0
                simp only [Bool.and_eq_true, beq_iff_eq] at c178b7
                have c178b8 := eq_true c178b7
                clear c178b7
                (try (have c178b1 : decide (t112 = 0 && (t113 == 0 && (t114 == 0 && (t115.toList == ([] : List UInt8))))) = true := by simpa using c178))
                (try (have c178b2 : (t112 == 0 && (t113 == 0 && (t114 == 0 && (t115.toList == ([] : List UInt8))))) = true := by simpa using c178))
                clear c178
                by_cases c179 : (t118 == t112 && (t119 == t113 && (t120 == t114 && (t121.toList == t115.toList)))) = true
                focus
                  rw [if_pos c179] at H
                  have c179b0 : (t118 == t112 && (t119 == t113 && (t120 == t114 && (t121.toList == t115.toList)))) = true := c179
                  have c179b7 := c179b0
                  simp only [Bool.and_eq_true, beq_iff_eq] at c179b7
                  have c179b8 := eq_true c179b7
                  clear c179b7
                  (try (have c179b1 : decide (t118 = t112 && (t119 == t113 && (t120 == t114 && (t121.toList == t115.toList)))) = true := by simpa using c179))
                  (try (have c179b2 : (t118 == t112 && (t119 == t113 && (t120 == t114 && (t121.toList == t115.toList)))) = true := by simpa using c179))
                  clear c179
                  by_cases c180 : (t124 == t112 && (t125 == t113 && (t126 == t114 && (t127.toList == t115.toList)))) = true
                  focus
                    rw [if_pos c180] at H
                    have c180b0 : (t124 == t112 && (t125 == t113 && (t126 == t114 && (t127.toList == t115.toList)))) = true := c180
                    have c180b7 := c180b0
                    simp only [Bool.and_eq_true, beq_iff_eq] at c180b7
                    have c180b8 := eq_true c180b7
                    clear c180b7
                    (try (have c180b1 : decide (t124 = t112 && (t125 == t113 && (t126 == t114 && (t127.toList == t115.toList)))) = true := by simpa using c180))
                    (try (have c180b2 : (t124 == t112 && (t125 == t113 && (t126 == t114 && (t127.toList == t115.toList)))) = true := by simpa using c180))
                    clear c180
                    by_cases c181 : ((t116 == 0) == true) = true
                    focus
                      rw [if_pos c181] at H
                      have c181b0 : ((t116 == 0) == true) = true := c181
                      (try (have c181b1 : decide ((t116 == 0) = true) = true := by simpa using c181))
                      (try (have c181b2 : ((t116 == 0) == true) = true := by simpa using c181))
                      clear c181
                      by_cases c182 : t122 = t116
                      focus
                        rw [if_pos c182] at H
                        have c182b0 : (t122 == t116) = true := beq_iff_eq.mpr c182
                        have c182b1 : (t122 != t116) = false := bne_eq_false_iff_eq.mpr c182
                        clear c182
                        by_cases c183 : t116 = 0
                        focus
                          rw [if_pos c183] at H
                          have c183b0 : (t116 == 0) = true := beq_iff_eq.mpr c183
                          have c183b1 : (t116 != 0) = false := bne_eq_false_iff_eq.mpr c183
                          clear c183
                          by_cases c184 : t128 = 0
                          focus
                            rw [if_pos c184] at H
                            have c184b0 : (t128 == 0) = true := beq_iff_eq.mpr c184
                            have c184b1 : (t128 != 0) = false := bne_eq_false_iff_eq.mpr c184
                            clear c184
                            obtain rfl := Option.some.inj H
                          rotate_left
                          focus
                            rw [if_neg c184] at H
                            have c184b0 : (t128 == 0) = false := beq_eq_false_iff_ne.mpr c184
                            have c184b1 : (t128 != 0) = true := bne_iff_ne.mpr c184
                            by_cases c222 : t128 = 5
                            focus
                              rw [if_pos c222] at H
                              have c222b0 : (t128 == 5) = true := beq_iff_eq.mpr c222
                              have c222b1 : (t128 != 5) = false := bne_eq_false_iff_eq.mpr c222
                              clear c222
                              obtain rfl := Option.some.inj H
                            rotate_left
                            focus
                              rw [if_neg c222] at H
                              exact absurd H (by simp)
                          rotate_left
                        rotate_left 2
                        focus
                          rw [if_neg c183] at H
                          have c183b0 : (t116 == 0) = false := beq_eq_false_iff_ne.mpr c183
                          have c183b1 : (t116 != 0) = true := bne_iff_ne.mpr c183
                          by_cases c260 : t116 = 5
                          focus
                            rw [if_pos c260] at H
                            have c260b0 : (t116 == 5) = true := beq_iff_eq.mpr c260
                            have c260b1 : (t116 != 5) = false := bne_eq_false_iff_eq.mpr c260
                            clear c260
                            by_cases c261 : t128 = 0
                            focus
                              rw [if_pos c261] at H
                              have c261b0 : (t128 == 0) = true := beq_iff_eq.mpr c261
                              have c261b1 : (t128 != 0) = false := bne_eq_false_iff_eq.mpr c261
                              clear c261
                              obtain rfl := Option.some.inj H
                            rotate_left
                            focus
                              rw [if_neg c261] at H
                              have c261b0 : (t128 == 0) = false := beq_eq_false_iff_ne.mpr c261
                              have c261b1 : (t128 != 0) = true := bne_iff_ne.mpr c261
                              by_cases c299 : t128 = 5
                              focus
                                rw [if_pos c299] at H
                                have c299b0 : (t128 == 5) = true := beq_iff_eq.mpr c299
                                have c299b1 : (t128 != 5) = false := bne_eq_false_iff_eq.mpr c299
                                clear c299
                                obtain rfl := Option.some.inj H
                              rotate_left
                              focus
                                rw [if_neg c299] at H
                                exact absurd H (by simp)
                            rotate_left
                          rotate_left 2
                          focus
                            rw [if_neg c260] at H
                            exact absurd H (by simp)
                        rotate_left 2
                      rotate_left 4
                      focus
                        rw [if_neg c182] at H
                        exact absurd H (by simp)
                    rotate_left 4
                    focus
                      rw [if_neg c181] at H
                      exact absurd H (by simp)
                  rotate_left 4
                  focus
                    rw [if_neg c180] at H
                    exact absurd H (by simp)
                rotate_left 4
                focus
                  rw [if_neg c179] at H
                  exact absurd H (by simp)
              rotate_left 4
              focus
                rw [if_neg c178] at H
                exact absurd H (by simp)
            rotate_left 4
            focus
              rw [if_neg c177] at H
              have c177b0 : (t102 == 2) = false := beq_eq_false_iff_ne.mpr c177
              have c177b1 : (t102 != 2) = true := bne_iff_ne.mpr c177
              by_cases c337 : (t112 == 0 && (t113 == 0 && (t114 == 0 && (t115.toList == ([] : List UInt8))))) = true
              focus
                rw [if_pos c337] at H
                have c337b0 : (t112 == 0 && (t113 == 0 && (t114 == 0 && (t115.toList == ([] : List UInt8))))) = true := c337
                have c337b7 := c337b0
                simp only [Bool.and_eq_true, beq_iff_eq] at c337b7
                have c337b8 := eq_true c337b7
                clear c337b7
                (try (have c337b1 : decide (t112 = 0 && (t113 == 0 && (t114 == 0 && (t115.toList == ([] : List UInt8))))) = true := by simpa using c337))
                (try (have c337b2 : (t112 == 0 && (t113 == 0 && (t114 == 0 && (t115.toList == ([] : List UInt8))))) = true := by simpa using c337))
                clear c337
                by_cases c338 : (t118 == t112 && (t119 == t113 && (t120 == t114 && (t121.toList == t115.toList)))) = true
                focus
                  rw [if_pos c338] at H
                  have c338b0 : (t118 == t112 && (t119 == t113 && (t120 == t114 && (t121.toList == t115.toList)))) = true := c338
                  have c338b7 := c338b0
                  simp only [Bool.and_eq_true, beq_iff_eq] at c338b7
                  have c338b8 := eq_true c338b7
                  clear c338b7
                  (try (have c338b1 : decide (t118 = t112 && (t119 == t113 && (t120 == t114 && (t121.toList == t115.toList)))) = true := by simpa using c338))
                  (try (have c338b2 : (t118 == t112 && (t119 == t113 && (t120 == t114 && (t121.toList == t115.toList)))) = true := by simpa using c338))
                  clear c338
                  by_cases c339 : (t124 == t112 && (t125 == t113 && (t126 == t114 && (t127.toList == t115.toList)))) = true
                  focus
                    rw [if_pos c339] at H
                    have c339b0 : (t124 == t112 && (t125 == t113 && (t126 == t114 && (t127.toList == t115.toList)))) = true := c339
                    have c339b7 := c339b0
                    simp only [Bool.and_eq_true, beq_iff_eq] at c339b7
                    have c339b8 := eq_true c339b7
                    clear c339b7
                    (try (have c339b1 : decide (t124 = t112 && (t125 == t113 && (t126 == t114 && (t127.toList == t115.toList)))) = true := by simpa using c339))
                    (try (have c339b2 : (t124 == t112 && (t125 == t113 && (t126 == t114 && (t127.toList == t115.toList)))) = true := by simpa using c339))
                    clear c339
                    by_cases c340 : ((t116 == 0) == (t102 == 3)) = true
                    focus
                      rw [if_pos c340] at H
                      have c340b0 : ((t116 == 0) == (t102 == 3)) = true := c340
                      (try (have c340b1 : decide ((t116 == 0) = (t102 == 3)) = true := by simpa using c340))
                      (try (have c340b2 : ((t116 == 0) == (t102 == 3)) = true := by simpa using c340))
                      clear c340
                      by_cases c341 : t122 = t116
                      focus
                        rw [if_pos c341] at H
                        have c341b0 : (t122 == t116) = true := beq_iff_eq.mpr c341
                        have c341b1 : (t122 != t116) = false := bne_eq_false_iff_eq.mpr c341
                        clear c341
                        by_cases c342 : t116 = 0
                        focus
                          rw [if_pos c342] at H
                          have c342b0 : (t116 == 0) = true := beq_iff_eq.mpr c342
                          have c342b1 : (t116 != 0) = false := bne_eq_false_iff_eq.mpr c342
                          clear c342
                          by_cases c343 : t128 = 0
                          focus
                            rw [if_pos c343] at H
                            have c343b0 : (t128 == 0) = true := beq_iff_eq.mpr c343
                            have c343b1 : (t128 != 0) = false := bne_eq_false_iff_eq.mpr c343
                            clear c343
                            obtain rfl := Option.some.inj H
                          rotate_left
                          focus
                            rw [if_neg c343] at H
                            have c343b0 : (t128 == 0) = false := beq_eq_false_iff_ne.mpr c343
                            have c343b1 : (t128 != 0) = true := bne_iff_ne.mpr c343
                            by_cases c381 : t128 = 5
                            focus
                              rw [if_pos c381] at H
                              have c381b0 : (t128 == 5) = true := beq_iff_eq.mpr c381
                              have c381b1 : (t128 != 5) = false := bne_eq_false_iff_eq.mpr c381
                              clear c381
                              obtain rfl := Option.some.inj H
                            rotate_left
                            focus
                              rw [if_neg c381] at H
                              exact absurd H (by simp)
                          rotate_left
                        rotate_left 2
                        focus
                          rw [if_neg c342] at H
                          have c342b0 : (t116 == 0) = false := beq_eq_false_iff_ne.mpr c342
                          have c342b1 : (t116 != 0) = true := bne_iff_ne.mpr c342
                          by_cases c419 : t116 = 5
                          focus
                            rw [if_pos c419] at H
                            have c419b0 : (t116 == 5) = true := beq_iff_eq.mpr c419
                            have c419b1 : (t116 != 5) = false := bne_eq_false_iff_eq.mpr c419
                            clear c419
                            by_cases c420 : t128 = 0
                            focus
                              rw [if_pos c420] at H
                              have c420b0 : (t128 == 0) = true := beq_iff_eq.mpr c420
                              have c420b1 : (t128 != 0) = false := bne_eq_false_iff_eq.mpr c420
                              clear c420
                              obtain rfl := Option.some.inj H
                            rotate_left
                            focus
                              rw [if_neg c420] at H
                              have c420b0 : (t128 == 0) = false := beq_eq_false_iff_ne.mpr c420
                              have c420b1 : (t128 != 0) = true := bne_iff_ne.mpr c420
                              by_cases c458 : t128 = 5
                              focus
                                rw [if_pos c458] at H
                                have c458b0 : (t128 == 5) = true := beq_iff_eq.mpr c458
                                have c458b1 : (t128 != 5) = false := bne_eq_false_iff_eq.mpr c458
                                clear c458
                                obtain rfl := Option.some.inj H
                              rotate_left
                              focus
                                rw [if_neg c458] at H
                                exact absurd H (by simp)
                            rotate_left
                          rotate_left 2
                          focus
                            rw [if_neg c419] at H
                            exact absurd H (by simp)
                        rotate_left 2
                      rotate_left 4
                      focus
                        rw [if_neg c341] at H
                        exact absurd H (by simp)
                    rotate_left 4
                    focus
                      rw [if_neg c340] at H
                      exact absurd H (by simp)
                  rotate_left 4
                  focus
                    rw [if_neg c339] at H
                    exact absurd H (by simp)
                rotate_left 4
                focus
                  rw [if_neg c338] at H
                  exact absurd H (by simp)
              rotate_left 4
              focus
                rw [if_neg c337] at H
                exact absurd H (by simp)
            rotate_left 4
          rotate_left 8
          all_goals
            (try have z_ : (t102 == 3) = (t116 == 0) := (beq_iff_eq.1 c340b0).symm)
            (try rw [c342b0] at z_)
            go_wp2
            go_ret
            exact ⟨by first | rfl | (simp [errW_none, errW_some] <;> rfl) | (simp [*, errW_none, errW_some] <;> rfl) | (exfalso; have h_ : ((t116 == 0) == true) = true := (by assumption); have g_ : (t116 == 0) = false := (by assumption); rw [g_] at h_; cases h_), by repeat (first | (with_reducible first | exact HB.out | apply below_alloc | apply pw_below_drewN | apply below_drew1 | refine below_set ?_ GE106.out | refine below_set ?_ GE117.out | refine below_set ?_ GE123.out | refine below_set ?_ GE129.out | refine below_set ?_ GE135.out) | exact HB.out)⟩
        · rw [if_neg c12] at H
          exact absurd H (by simp)
      · rw [if_neg c11] at H
        exact absurd H (by simp)
  · replace c6 := Bool.eq_false_iff.mpr c6
    subst c6
    have H1 : (none) = some r := by rw [if_neg (show ¬ (false = true) by decide)] at H; exact H
    clear H
    have H := H1
    clear H1
    exact absurd H (by simp)
def federationlaw1_ValNulls.Pure : Prop := ∀ (a0 : Int) (a1 : Int) (a2 : ByteArray) (a3 : Int), (Lit.int .i64 a0).wf = true → (Lit.int .i64 a1).wf = true → a2.size ≤ 140737488351232 → (Lit.int .i64 a3).wf = true → ∃ k, federationlaw1_ValNulls.f k a0 a1 a2 a3 = some true
theorem federationlaw1_ValNulls.walk (P : federationlaw1_ValNulls.Pure) (a0 : Int) (a1 : Int) (a2 : ByteArray) (a3 : Int) (w : World) (w0 : (Lit.int .i64 a0).wf = true) (w1 : (Lit.int .i64 a1).wf = true) (w2 : a2.size ≤ 140737488351232) (w3 : (Lit.int .i64 a3).wf = true) :
    Calls Try.prog 6 #[.int .i64 a0, .int .i64 a1, .string a2, .int .i64 a3] w fun e w' => e = .returned (.bool true) ∧ Below w.heap.size w w' := by
  obtain ⟨k, h⟩ := P a0 a1 a2 a3 w0 w1 w2 w3
  refine (federationlaw1_ValNulls.calls k a0 a1 a2 a3 true w h).mono ?_
  rintro e w' ⟨rfl, hd⟩
  exact ⟨rfl, hd⟩
end Go.Proofs.Ytllkhdhanheieaa.V
namespace Go.Proofs.Ytllkhdhanheieaa.V
open Go.RowKit Go.Proofs.YtllkhdhanheieaaW.PrintWords Go.Proofs.YtllkhdhanheieaaW.PrintLast Go.Proofs.YtllkhdhanheieaaW.PrintMore
attribute [local go_sem] max2_int min2_int max_two min_two max_three min_three max_four min_four
attribute [local go_sem high] own_gtr own_leq own_geq own_cell_set Option.map_some fld23_1
set_option linter.unusedVariables false
set_option linter.unusedSimpArgs false
theorem wrap64_of {x : Int} (h0 : -9223372036854775808 ≤ x) (h1 : x ≤ 9223372036854775807) : wrap64 x = x := by
  unfold wrap64; omega
def p10 (n : Nat) : Int := (10 : Int) ^ n
theorem p10_pos (n : Nat) : 0 < p10 n := Int.pow_pos (by decide)
theorem p10_zero : p10 0 = 1 := rfl
theorem p10_succ (n : Nat) : p10 (n + 1) = p10 n * 10 := by unfold p10; rw [Int.pow_succ]
theorem p10_mono {m n : Nat} (h : m ≤ n) : p10 m ≤ p10 n := by
  induction h with
  | refl => exact Int.le_refl _
  | step _ ih => rw [p10_succ]; have := p10_pos m; omega
theorem p10_le (n : Nat) (h : n ≤ 18) : p10 n ≤ 1000000000000000000 := by
  have := p10_mono h
  have e : p10 18 = 1000000000000000000 := by decide
  omega
theorem p10_six : p10 6 = 1000000 := by decide
theorem p10_add (m n : Nat) : p10 (m + n) = p10 m * p10 n := by unfold p10; rw [Int.pow_add]
theorem val_ten_l0 : ∀ (d : Nat) (k i : Nat), d < k → i + d ≤ 18 → val_ten.l0 k (p10 i) ((i + d : Nat) : Int) (i : Int) = some (p10 (i + d))
  | 0, k, i, hk, h => by
    obtain ⟨k, rfl⟩ : ∃ m, k = m + 1 := ⟨k - 1, by omega⟩
    simp only [val_ten.l0]; rw [if_neg (by omega)]; rfl
  | d + 1, k, i, hk, h => by
    obtain ⟨k, rfl⟩ : ∃ m, k = m + 1 := ⟨k - 1, by omega⟩
    simp only [val_ten.l0]; rw [if_pos (by omega)]
    have h1 := p10_le (i + 1) (by omega)
    have h2 := p10_pos (i + 1)
    rw [← p10_succ, wrap64_of (by omega) (by omega), wrap64_of (by omega) (by omega)]
    have := val_ten_l0 d k (i + 1) (by omega) (by omega)
    rw [show i + 1 + d = i + (d + 1) by omega] at this
    exact this
theorem val_ten_eq (k n : Nat) (hk : 18 < k) (h : n ≤ 18) : val_ten.f k (n : Int) = some (p10 n) := by
  have := val_ten_l0 n k 0 (by omega) (by omega)
  rw [Nat.zero_add] at this
  exact this
def red : Int → Nat → Int × Nat
  | n, 0 => (n, 0)
  | n, s + 1 => if n % 10 = 0 then red (n / 10) s else (n, s + 1)
theorem red_zero : ∀ s, red 0 s = (0, 0)
  | 0 => rfl
  | s + 1 => by simp only [red]; rw [if_pos (by decide)]; exact red_zero s
theorem red_ten (n : Int) (s : Nat) : red (n * 10) (s + 1) = red n s := by
  simp only [red]; rw [if_pos (by omega), show n * 10 / 10 = n by omega]
theorem red_tens (n : Int) : ∀ (j s : Nat), red (n * p10 j) (s + j) = red n s
  | 0, s => by rw [p10_zero, Int.mul_one]; rfl
  | j + 1, s => by rw [p10_succ, ← Int.mul_assoc, ← Nat.add_assoc, red_ten]; exact red_tens n j s
theorem red_scale : ∀ (s : Nat) (n : Int), (red n s).2 ≤ s
  | 0, _ => Nat.le_refl _
  | s + 1, n => by
    simp only [red]
    split
    · exact Nat.le_succ_of_le (red_scale s _)
    · exact Nat.le_refl _
theorem red_done : ∀ (s : Nat) (n : Int), (red n s).2 = 0 ∨ (red n s).1 % 10 ≠ 0
  | 0, _ => Or.inl rfl
  | s + 1, n => by
    simp only [red]
    split
    · exact red_done s _
    · rename_i h; exact Or.inr h
theorem red_same (n : Int) (s : Nat) (h : s = 0 ∨ n % 10 ≠ 0) : red n s = (n, s) := by
  cases s with
  | zero => rfl
  | succ s =>
    simp only [red]
    rw [if_neg (by omega)]
theorem red_abs : ∀ (s : Nat) (n : Int), (red n s).1.natAbs ≤ n.natAbs
  | 0, _ => Nat.le_refl _
  | s + 1, n => by
    simp only [red]
    split
    · exact Nat.le_trans (red_abs s _) (by omega)
    · exact Nat.le_refl _
theorem tmod10 (n : Int) : (Int.tmod n 10 = 0) ↔ n % 10 = 0 := by
  constructor
  · intro h; have := Int.dvd_of_tmod_eq_zero h; omega
  · intro h; exact Int.tmod_eq_zero_of_dvd (by omega)
theorem tdiv10 (n : Int) (h : n % 10 = 0) : Int.tdiv n 10 = n / 10 := by
  rw [Int.tdiv_eq_ediv]; split <;> omega
theorem val_Norm_l0 (st : ByteArray) : ∀ (s k : Nat) (n : Int), s < k → s ≤ 9223372036854775807 → -9223372036854775808 ≤ n → n ≤ 9223372036854775807 → val_Norm.l0 k 3 n (s : Int) st = some (3, (red n s).1, ((red n s).2 : Int), st)
  | 0, k, n, hk, _, _, _ => by
    obtain ⟨k, rfl⟩ : ∃ m, k = m + 1 := ⟨k - 1, by omega⟩
    simp only [val_Norm.l0]; rw [if_pos trivial, if_neg (by omega)]; rfl
  | s + 1, k, n, hk, hs, h0, h1 => by
    obtain ⟨k, rfl⟩ : ∃ m, k = m + 1 := ⟨k - 1, by omega⟩
    simp only [val_Norm.l0]; rw [if_pos trivial, if_pos (by omega)]
    simp only [red]
    by_cases h : n % 10 = 0
    · rw [if_pos ((tmod10 n).2 h), if_pos h, tdiv10 n h, wrap64_of (by omega) (by omega), wrap64_of (by omega) (by omega), show ((s + 1 : Nat) : Int) - 1 = (s : Int) by omega]
      exact val_Norm_l0 st s k (n / 10) (by omega) (by omega) (by omega) (by omega)
    · rw [if_neg (fun e => h ((tmod10 n).1 e)), if_neg h]
theorem val_Norm_eq (k s : Nat) (n : Int) (st : ByteArray) (hk : s + 2 < k) (hs : s ≤ 9223372036854775807) (h0 : -9223372036854775808 ≤ n) (h1 : n ≤ 9223372036854775807) : val_Norm.f k 3 n (s : Int) st = some (3, (red n s).1, ((red n s).2 : Int), st) := by
  obtain ⟨k, rfl⟩ : ∃ m, k = m + 2 := ⟨k - 2, by omega⟩
  unfold val_Norm.f
  rw [if_pos rfl]
  simp only [val_Norm.j0, val_Norm.j1]
  by_cases h : n = 0
  · subst h
    rw [red_zero]
    simp only [beq_self_eq_true, if_true]
    rw [show mn (s : Int) 0 = ((0 : Nat) : Int) by unfold mn; split <;> omega]
    have := val_Norm_l0 st 0 k 0 (by omega) (by omega) (by omega) (by omega)
    exact this
  · rw [if_neg (by simpa using h)]
    exact val_Norm_l0 st s k n (by omega) hs h0 h1
theorem ref_Norm_l0 (st : ByteArray) : ∀ (s k : Nat) (n : Int), s < k → s ≤ 9223372036854775807 → -9223372036854775808 ≤ n → n ≤ 9223372036854775807 → federationref1_Norm.l0 k 3 n (s : Int) st = some (3, (red n s).1, ((red n s).2 : Int), st)
  | 0, k, n, hk, _, _, _ => by
    obtain ⟨k, rfl⟩ : ∃ m, k = m + 1 := ⟨k - 1, by omega⟩
    simp only [federationref1_Norm.l0]; rw [if_pos trivial, if_neg (by omega)]; rfl
  | s + 1, k, n, hk, hs, h0, h1 => by
    obtain ⟨k, rfl⟩ : ∃ m, k = m + 1 := ⟨k - 1, by omega⟩
    simp only [federationref1_Norm.l0]; rw [if_pos trivial, if_pos (by omega)]
    simp only [red]
    by_cases h : n % 10 = 0
    · rw [if_pos ((tmod10 n).2 h), if_pos h, tdiv10 n h, wrap64_of (by omega) (by omega), wrap64_of (by omega) (by omega), show ((s + 1 : Nat) : Int) - 1 = (s : Int) by omega]
      exact ref_Norm_l0 st s k (n / 10) (by omega) (by omega) (by omega) (by omega)
    · rw [if_neg (fun e => h ((tmod10 n).1 e)), if_neg h]
theorem ref_Norm_eq (k s : Nat) (n : Int) (st : ByteArray) (hk : s + 2 < k) (hs : s ≤ 9223372036854775807) (h0 : -9223372036854775808 ≤ n) (h1 : n ≤ 9223372036854775807) : federationref1_Norm.f k 3 n (s : Int) st = some (3, (red n s).1, ((red n s).2 : Int), st) := by
  obtain ⟨k, rfl⟩ : ∃ m, k = m + 2 := ⟨k - 2, by omega⟩
  unfold federationref1_Norm.f
  rw [if_pos rfl]
  simp only [federationref1_Norm.j0, federationref1_Norm.j1]
  by_cases h : n = 0
  · subst h
    rw [red_zero]
    by_cases hs0 : (s : Int) > 0
    · rw [if_pos hs0]
      simp only [beq_self_eq_true, if_true]
      exact ref_Norm_l0 st 0 k 0 (by omega) (by omega) (by omega) (by omega)
    · rw [if_neg hs0, show (s : Int) = ((0 : Nat) : Int) by omega]
      simp only [Bool.false_eq_true, if_false]
      exact ref_Norm_l0 st 0 k 0 (by omega) (by omega) (by omega) (by omega)
  · have hl := ref_Norm_l0 st s k n (by omega) hs h0 h1
    by_cases hs0 : (s : Int) > 0
    · rw [if_pos hs0, if_neg (by simpa using h)]; exact hl
    · rw [if_neg hs0]; simp only [Bool.false_eq_true, if_false]; exact hl
end Go.Proofs.Ytllkhdhanheieaa.V
