-- Written by drive.py and pack.py (programs of this proof's own) through the kit's printer; not trusted: Lean checks it.
import Derived.Test.YtllkhdhanheieaaCValDecs1
import Derived.Test.YtllkhdhanheieaaCValDecs10
import Derived.Test.YtllkhdhanheieaaCValDecs7
import Derived.Test.YtllkhdhanheieaaCValDecs9
import Derived.Test.YtllkhdhanheieaaCValDecs3
import Derived.Test.YtllkhdhanheieaaCValDecs8
import Derived.Test.YtllkhdhanheieaaCValDecs2
namespace Go.Proofs.Ytllkhdhanheieaa.V
open Go.RowKit Go.Proofs.YtllkhdhanheieaaW.PrintWords Go.Proofs.YtllkhdhanheieaaW.PrintLast Go.Proofs.YtllkhdhanheieaaW.PrintMore
attribute [local go_sem] max2_int min2_int max_two min_two max_three min_three max_four min_four
attribute [local go_sem high] own_gtr own_leq own_geq own_cell_set Option.map_some fld23_1
set_option linter.unusedVariables false
set_option linter.unusedSimpArgs false
attribute [local go_sem high] eqA23
def federationlaw1_ValDecs.f (k : Nat) (a0 : Int) (a1 : Int) (a2 : Int) (a3 : Int) : Option (Bool) := (federationlaw1_known.f k).bind fun t101 => (if t101 = true then ((federationlaw1_within.f a0 2000000).bind fun t102 => ((federationlaw1_within.f a1 7).bind fun t103 => ((federationref1_Norm.f k 3 (wrap64 (t102 - 1000000)) t103 (⟨#[]⟩ : ByteArray)).bind fun bt104 => ((federationlaw1_within.f a2 2000000).bind fun t109 => ((federationlaw1_within.f a3 7).bind fun t110 => ((federationref1_Norm.f k 3 (wrap64 (t109 - 1000000)) t110 (⟨#[]⟩ : ByteArray)).bind fun bt111 => ((val_Reckon.f k 8 bt104.1 bt104.2.1 bt104.2.2.1 bt104.2.2.2 bt111.1 bt111.2.1 bt111.2.2.1 bt111.2.2.2).bind fun bt116 => ((val_Reckon.f k 8 bt104.1 bt104.2.1 bt104.2.2.1 bt104.2.2.2 bt104.1 bt104.2.1 bt104.2.2.1 bt104.2.2.2).bind fun bt122 => (if bt116.2.2.2.2 = 0 then (if bt122.2.2.2.2 = 0 then (if (bt122.1 == 3 && (bt122.2.1 == 0 && (bt122.2.2.1 == 0 && (bt122.2.2.2.1.toList == ([] : List UInt8))))) = true then ((val_Order.f k bt104.1 bt104.2.1 bt104.2.2.1 bt104.2.2.2 bt111.1 bt111.2.1 bt111.2.2.1 bt111.2.2.2).bind fun t129 => ((val_Order.f k bt116.1 bt116.2.1 bt116.2.2.1 bt116.2.2.2.1 3 0 0 (⟨#[]⟩ : ByteArray)).bind fun t130 => (some (t129 == t130)))) else (none)) else (none)) else (none)))))))))) else (none))
def federationlaw1_ValDecs.T8 : Bool × List (List Nat × List Nat) := (true, [([], []), ([0], [0]), ([1], [1]), ([2], [2]), ([3, 2], [2, 3]), ([2, 4], [2, 4]), ([5, 2], [5]), ([6], [6]), ([6], [6]), ([7, 8, 6], [6, 7, 8]), ([6, 9], [6, 9]), ([10, 6], [10]), ([11], [11]), ([11], [11]), ([12, 13, 11, 11], [11, 12, 13]), ([11], [11]), ([11], [11]), ([15, 16, 14, 11], [11, 15, 16]), ([14, 17, 11], [11, 14, 17]), ([11, 18], [11, 18]), ([19, 17, 0, 1, 2, 3, 4, 5, 6, 7, 8, 9, 10, 11, 12, 13, 14, 15, 16, 17, 18, 19], [19])])
def federationlaw1_ValDecs.B8 : List Nat := [0, 1, 3, 7, 15, 31, 63, 127, 127, 511, 1023, 2047, 4095, 4095, 16383, 4095, 4095, 131071, 262143, 524287, 1048575]
theorem federationlaw1_ValDecs.tab8 : rtab .any (opsOf Try.f8 8) = federationlaw1_ValDecs.T8 := by kernel_rfl
theorem federationlaw1_ValDecs.bits8 : waitsOk federationlaw1_ValDecs.T8.2 federationlaw1_ValDecs.B8 = true := by kernel_rfl
set_option maxHeartbeats 8000000 in
set_option maxRecDepth 100000 in
theorem federationlaw1_ValDecs.calls (k : Nat) (a0 : Int) (a1 : Int) (a2 : Int) (a3 : Int) (r : Bool) (w : World) (h : federationlaw1_ValDecs.f k a0 a1 a2 a3 = some r) :
    Calls Try.prog 8 #[.int .i64 a0, .int .i64 a1, .int .i64 a2, .int .i64 a3] w fun e w' => e = .returned (.bool r) ∧ Below w.heap.size w w' := by
  have hu23 := Try.underlying23
  have HB := Aside0.mk (Below.refl w.heap.size w)
  have H : ((federationlaw1_known.f k).bind fun t101 => (if t101 = true then ((federationlaw1_within.f a0 2000000).bind fun t102 => ((federationlaw1_within.f a1 7).bind fun t103 => ((federationref1_Norm.f k 3 (wrap64 (t102 - 1000000)) t103 (⟨#[]⟩ : ByteArray)).bind fun bt104 => ((federationlaw1_within.f a2 2000000).bind fun t109 => ((federationlaw1_within.f a3 7).bind fun t110 => ((federationref1_Norm.f k 3 (wrap64 (t109 - 1000000)) t110 (⟨#[]⟩ : ByteArray)).bind fun bt111 => ((val_Reckon.f k 8 bt104.1 bt104.2.1 bt104.2.2.1 bt104.2.2.2 bt111.1 bt111.2.1 bt111.2.2.1 bt111.2.2.2).bind fun bt116 => ((val_Reckon.f k 8 bt104.1 bt104.2.1 bt104.2.2.1 bt104.2.2.2 bt104.1 bt104.2.1 bt104.2.2.1 bt104.2.2.2).bind fun bt122 => (if bt116.2.2.2.2 = 0 then (if bt122.2.2.2.2 = 0 then (if (bt122.1 == 3 && (bt122.2.1 == 0 && (bt122.2.2.1 == 0 && (bt122.2.2.2.1.toList == ([] : List UInt8))))) = true then ((val_Order.f k bt104.1 bt104.2.1 bt104.2.2.1 bt104.2.2.2 bt111.1 bt111.2.1 bt111.2.2.1 bt111.2.2.2).bind fun t129 => ((val_Order.f k bt116.1 bt116.2.1 bt116.2.2.1 bt116.2.2.2.1 3 0 0 (⟨#[]⟩ : ByteArray)).bind fun t130 => (some (t129 == t130)))) else (none)) else (none)) else (none)))))))))) else (none))) = some r := h
  clear h
  replace H := Option.bind_eq_some_iff.mp H
  obtain ⟨t101, A50, H⟩ := H
  replace H : (if t101 = true then ((federationlaw1_within.f a0 2000000).bind fun t102 => ((federationlaw1_within.f a1 7).bind fun t103 => ((federationref1_Norm.f k 3 (wrap64 (t102 - 1000000)) t103 (⟨#[]⟩ : ByteArray)).bind fun bt104 => ((federationlaw1_within.f a2 2000000).bind fun t109 => ((federationlaw1_within.f a3 7).bind fun t110 => ((federationref1_Norm.f k 3 (wrap64 (t109 - 1000000)) t110 (⟨#[]⟩ : ByteArray)).bind fun bt111 => ((val_Reckon.f k 8 bt104.1 bt104.2.1 bt104.2.2.1 bt104.2.2.2 bt111.1 bt111.2.1 bt111.2.2.1 bt111.2.2.2).bind fun bt116 => ((val_Reckon.f k 8 bt104.1 bt104.2.1 bt104.2.2.1 bt104.2.2.2 bt104.1 bt104.2.1 bt104.2.2.1 bt104.2.2.2).bind fun bt122 => (if bt116.2.2.2.2 = 0 then (if bt122.2.2.2.2 = 0 then (if (bt122.1 == 3 && (bt122.2.1 == 0 && (bt122.2.2.1 == 0 && (bt122.2.2.2.1.toList == ([] : List UInt8))))) = true then ((val_Order.f k bt104.1 bt104.2.1 bt104.2.2.1 bt104.2.2.2 bt111.1 bt111.2.1 bt111.2.2.1 bt111.2.2.2).bind fun t129 => ((val_Order.f k bt116.1 bt116.2.1 bt116.2.2.1 bt116.2.2.2.1 3 0 0 (⟨#[]⟩ : ByteArray)).bind fun t130 => (some (t129 == t130)))) else (none)) else (none)) else (none)))))))))) else (none)) = some r := H
  have A5 := Aside0.mk A50
  clear A50
  by_cases c6 : t101 = true
  · subst c6
    have H1 : ((federationlaw1_within.f a0 2000000).bind fun t102 => ((federationlaw1_within.f a1 7).bind fun t103 => ((federationref1_Norm.f k 3 (wrap64 (t102 - 1000000)) t103 (⟨#[]⟩ : ByteArray)).bind fun bt104 => ((federationlaw1_within.f a2 2000000).bind fun t109 => ((federationlaw1_within.f a3 7).bind fun t110 => ((federationref1_Norm.f k 3 (wrap64 (t109 - 1000000)) t110 (⟨#[]⟩ : ByteArray)).bind fun bt111 => ((val_Reckon.f k 8 bt104.1 bt104.2.1 bt104.2.2.1 bt104.2.2.2 bt111.1 bt111.2.1 bt111.2.2.1 bt111.2.2.2).bind fun bt116 => ((val_Reckon.f k 8 bt104.1 bt104.2.1 bt104.2.2.1 bt104.2.2.2 bt104.1 bt104.2.1 bt104.2.2.1 bt104.2.2.2).bind fun bt122 => (if bt116.2.2.2.2 = 0 then (if bt122.2.2.2.2 = 0 then (if (bt122.1 == 3 && (bt122.2.1 == 0 && (bt122.2.2.1 == 0 && (bt122.2.2.2.1.toList == ([] : List UInt8))))) = true then ((val_Order.f k bt104.1 bt104.2.1 bt104.2.2.1 bt104.2.2.2 bt111.1 bt111.2.1 bt111.2.2.1 bt111.2.2.2).bind fun t129 => ((val_Order.f k bt116.1 bt116.2.1 bt116.2.2.1 bt116.2.2.2.1 3 0 0 (⟨#[]⟩ : ByteArray)).bind fun t130 => (some (t129 == t130)))) else (none)) else (none)) else (none)))))))))) = some r := by rw [if_pos rfl] at H; exact H
    clear H
    have H := H1
    clear H1
    replace H := Option.bind_eq_some_iff.mp H
    obtain ⟨t102, A70, H⟩ := H
    replace H : ((federationlaw1_within.f a1 7).bind fun t103 => ((federationref1_Norm.f k 3 (wrap64 (t102 - 1000000)) t103 (⟨#[]⟩ : ByteArray)).bind fun bt104 => ((federationlaw1_within.f a2 2000000).bind fun t109 => ((federationlaw1_within.f a3 7).bind fun t110 => ((federationref1_Norm.f k 3 (wrap64 (t109 - 1000000)) t110 (⟨#[]⟩ : ByteArray)).bind fun bt111 => ((val_Reckon.f k 8 bt104.1 bt104.2.1 bt104.2.2.1 bt104.2.2.2 bt111.1 bt111.2.1 bt111.2.2.1 bt111.2.2.2).bind fun bt116 => ((val_Reckon.f k 8 bt104.1 bt104.2.1 bt104.2.2.1 bt104.2.2.2 bt104.1 bt104.2.1 bt104.2.2.1 bt104.2.2.2).bind fun bt122 => (if bt116.2.2.2.2 = 0 then (if bt122.2.2.2.2 = 0 then (if (bt122.1 == 3 && (bt122.2.1 == 0 && (bt122.2.2.1 == 0 && (bt122.2.2.2.1.toList == ([] : List UInt8))))) = true then ((val_Order.f k bt104.1 bt104.2.1 bt104.2.2.1 bt104.2.2.2 bt111.1 bt111.2.1 bt111.2.2.1 bt111.2.2.2).bind fun t129 => ((val_Order.f k bt116.1 bt116.2.1 bt116.2.2.1 bt116.2.2.2.1 3 0 0 (⟨#[]⟩ : ByteArray)).bind fun t130 => (some (t129 == t130)))) else (none)) else (none)) else (none))))))))) = some r := H
    have A7 := Aside0.mk A70
    clear A70
    replace H := Option.bind_eq_some_iff.mp H
    obtain ⟨t103, A80, H⟩ := H
    replace H : ((federationref1_Norm.f k 3 (wrap64 (t102 - 1000000)) t103 (⟨#[]⟩ : ByteArray)).bind fun bt104 => ((federationlaw1_within.f a2 2000000).bind fun t109 => ((federationlaw1_within.f a3 7).bind fun t110 => ((federationref1_Norm.f k 3 (wrap64 (t109 - 1000000)) t110 (⟨#[]⟩ : ByteArray)).bind fun bt111 => ((val_Reckon.f k 8 bt104.1 bt104.2.1 bt104.2.2.1 bt104.2.2.2 bt111.1 bt111.2.1 bt111.2.2.1 bt111.2.2.2).bind fun bt116 => ((val_Reckon.f k 8 bt104.1 bt104.2.1 bt104.2.2.1 bt104.2.2.2 bt104.1 bt104.2.1 bt104.2.2.1 bt104.2.2.2).bind fun bt122 => (if bt116.2.2.2.2 = 0 then (if bt122.2.2.2.2 = 0 then (if (bt122.1 == 3 && (bt122.2.1 == 0 && (bt122.2.2.1 == 0 && (bt122.2.2.2.1.toList == ([] : List UInt8))))) = true then ((val_Order.f k bt104.1 bt104.2.1 bt104.2.2.1 bt104.2.2.2 bt111.1 bt111.2.1 bt111.2.2.1 bt111.2.2.2).bind fun t129 => ((val_Order.f k bt116.1 bt116.2.1 bt116.2.2.1 bt116.2.2.2.1 3 0 0 (⟨#[]⟩ : ByteArray)).bind fun t130 => (some (t129 == t130)))) else (none)) else (none)) else (none)))))))) = some r := H
    have A8 := Aside0.mk A80
    clear A80
    replace H := Option.bind_eq_some_iff.mp H
    obtain ⟨⟨t104, t105, t106, t107⟩, A90, H⟩ := H
    replace H : ((federationlaw1_within.f a2 2000000).bind fun t109 => ((federationlaw1_within.f a3 7).bind fun t110 => ((federationref1_Norm.f k 3 (wrap64 (t109 - 1000000)) t110 (⟨#[]⟩ : ByteArray)).bind fun bt111 => ((val_Reckon.f k 8 t104 t105 t106 t107 bt111.1 bt111.2.1 bt111.2.2.1 bt111.2.2.2).bind fun bt116 => ((val_Reckon.f k 8 t104 t105 t106 t107 t104 t105 t106 t107).bind fun bt122 => (if bt116.2.2.2.2 = 0 then (if bt122.2.2.2.2 = 0 then (if (bt122.1 == 3 && (bt122.2.1 == 0 && (bt122.2.2.1 == 0 && (bt122.2.2.2.1.toList == ([] : List UInt8))))) = true then ((val_Order.f k t104 t105 t106 t107 bt111.1 bt111.2.1 bt111.2.2.1 bt111.2.2.2).bind fun t129 => ((val_Order.f k bt116.1 bt116.2.1 bt116.2.2.1 bt116.2.2.2.1 3 0 0 (⟨#[]⟩ : ByteArray)).bind fun t130 => (some (t129 == t130)))) else (none)) else (none)) else (none))))))) = some r := H
    have A9 := Aside0.mk A90
    clear A90
    replace H := Option.bind_eq_some_iff.mp H
    obtain ⟨t109, A100, H⟩ := H
    replace H : ((federationlaw1_within.f a3 7).bind fun t110 => ((federationref1_Norm.f k 3 (wrap64 (t109 - 1000000)) t110 (⟨#[]⟩ : ByteArray)).bind fun bt111 => ((val_Reckon.f k 8 t104 t105 t106 t107 bt111.1 bt111.2.1 bt111.2.2.1 bt111.2.2.2).bind fun bt116 => ((val_Reckon.f k 8 t104 t105 t106 t107 t104 t105 t106 t107).bind fun bt122 => (if bt116.2.2.2.2 = 0 then (if bt122.2.2.2.2 = 0 then (if (bt122.1 == 3 && (bt122.2.1 == 0 && (bt122.2.2.1 == 0 && (bt122.2.2.2.1.toList == ([] : List UInt8))))) = true then ((val_Order.f k t104 t105 t106 t107 bt111.1 bt111.2.1 bt111.2.2.1 bt111.2.2.2).bind fun t129 => ((val_Order.f k bt116.1 bt116.2.1 bt116.2.2.1 bt116.2.2.2.1 3 0 0 (⟨#[]⟩ : ByteArray)).bind fun t130 => (some (t129 == t130)))) else (none)) else (none)) else (none)))))) = some r := H
    have A10 := Aside0.mk A100
    clear A100
    replace H := Option.bind_eq_some_iff.mp H
    obtain ⟨t110, A110, H⟩ := H
    replace H : ((federationref1_Norm.f k 3 (wrap64 (t109 - 1000000)) t110 (⟨#[]⟩ : ByteArray)).bind fun bt111 => ((val_Reckon.f k 8 t104 t105 t106 t107 bt111.1 bt111.2.1 bt111.2.2.1 bt111.2.2.2).bind fun bt116 => ((val_Reckon.f k 8 t104 t105 t106 t107 t104 t105 t106 t107).bind fun bt122 => (if bt116.2.2.2.2 = 0 then (if bt122.2.2.2.2 = 0 then (if (bt122.1 == 3 && (bt122.2.1 == 0 && (bt122.2.2.1 == 0 && (bt122.2.2.2.1.toList == ([] : List UInt8))))) = true then ((val_Order.f k t104 t105 t106 t107 bt111.1 bt111.2.1 bt111.2.2.1 bt111.2.2.2).bind fun t129 => ((val_Order.f k bt116.1 bt116.2.1 bt116.2.2.1 bt116.2.2.2.1 3 0 0 (⟨#[]⟩ : ByteArray)).bind fun t130 => (some (t129 == t130)))) else (none)) else (none)) else (none))))) = some r := H
    have A11 := Aside0.mk A110
    clear A110
    replace H := Option.bind_eq_some_iff.mp H
    obtain ⟨⟨t111, t112, t113, t114⟩, A120, H⟩ := H
    replace H : ((val_Reckon.f k 8 t104 t105 t106 t107 t111 t112 t113 t114).bind fun bt116 => ((val_Reckon.f k 8 t104 t105 t106 t107 t104 t105 t106 t107).bind fun bt122 => (if bt116.2.2.2.2 = 0 then (if bt122.2.2.2.2 = 0 then (if (bt122.1 == 3 && (bt122.2.1 == 0 && (bt122.2.2.1 == 0 && (bt122.2.2.2.1.toList == ([] : List UInt8))))) = true then ((val_Order.f k t104 t105 t106 t107 t111 t112 t113 t114).bind fun t129 => ((val_Order.f k bt116.1 bt116.2.1 bt116.2.2.1 bt116.2.2.2.1 3 0 0 (⟨#[]⟩ : ByteArray)).bind fun t130 => (some (t129 == t130)))) else (none)) else (none)) else (none)))) = some r := H
    have A12 := Aside0.mk A120
    clear A120
    replace H := Option.bind_eq_some_iff.mp H
    obtain ⟨⟨t116, t117, t118, t119, t120⟩, A130, H⟩ := H
    replace H : ((val_Reckon.f k 8 t104 t105 t106 t107 t104 t105 t106 t107).bind fun bt122 => (if t120 = 0 then (if bt122.2.2.2.2 = 0 then (if (bt122.1 == 3 && (bt122.2.1 == 0 && (bt122.2.2.1 == 0 && (bt122.2.2.2.1.toList == ([] : List UInt8))))) = true then ((val_Order.f k t104 t105 t106 t107 t111 t112 t113 t114).bind fun t129 => ((val_Order.f k t116 t117 t118 t119 3 0 0 (⟨#[]⟩ : ByteArray)).bind fun t130 => (some (t129 == t130)))) else (none)) else (none)) else (none))) = some r := H
    have A13 := Aside0.mk A130
    clear A130
    replace H := Option.bind_eq_some_iff.mp H
    obtain ⟨⟨t122, t123, t124, t125, t126⟩, A140, H⟩ := H
    replace H : (if t120 = 0 then (if t126 = 0 then (if (t122 == 3 && (t123 == 0 && (t124 == 0 && (t125.toList == ([] : List UInt8))))) = true then ((val_Order.f k t104 t105 t106 t107 t111 t112 t113 t114).bind fun t129 => ((val_Order.f k t116 t117 t118 t119 3 0 0 (⟨#[]⟩ : ByteArray)).bind fun t130 => (some (t129 == t130)))) else (none)) else (none)) else (none)) = some r := H
    have A14 := Aside0.mk A140
    clear A140
    by_cases c15 : t120 = 0
    · rw [if_pos c15] at H
      have c15b0 : (t120 == 0) = true := beq_iff_eq.mpr c15
      have c15b1 : (t120 != 0) = false := bne_eq_false_iff_eq.mpr c15
      clear c15
      by_cases c16 : t126 = 0
      · rw [if_pos c16] at H
        have c16b0 : (t126 == 0) = true := beq_iff_eq.mpr c16
        have c16b1 : (t126 != 0) = false := bne_eq_false_iff_eq.mpr c16
        clear c16
        by_cases c17 : (t122 == 3 && (t123 == 0 && (t124 == 0 && (t125.toList == ([] : List UInt8))))) = true
        · rw [if_pos c17] at H
          have c17b0 : (t122 == 3 && (t123 == 0 && (t124 == 0 && (t125.toList == ([] : List UInt8))))) = true := c17
          have c17b9 : (t122 == 3 && (t123 == 0 && (t124 == 0 && t125.toList.isEmpty))) = true := by simpa using c17
          (try (have c17b1 : decide (t122 = 3 && (t123 == 0 && (t124 == 0 && (t125.toList == ([] : List UInt8))))) = true := by simpa using c17))
          (try (have c17b2 : (t122 == 3 && (t123 == 0 && (t124 == 0 && (t125.toList == ([] : List UInt8))))) = true := by simpa using c17))
          clear c17
          replace H := Option.bind_eq_some_iff.mp H
          obtain ⟨t129, A180, H⟩ := H
          replace H : ((val_Order.f k t116 t117 t118 t119 3 0 0 (⟨#[]⟩ : ByteArray)).bind fun t130 => (some (t129 == t130))) = some r := H
          have A18 := Aside0.mk A180
          clear A180
          replace H := Option.bind_eq_some_iff.mp H
          obtain ⟨t130, A190, H⟩ := H
          replace H : (some (t129 == t130)) = some r := H
          have A19 := Aside0.mk A190
          clear A190
          obtain rfl := Option.some.inj H
          go_enter Try.func8, Try.ntmps8
          try go_wp2_with (first | ((with_reducible refine gate_callee (f := 13) rfl ?_); refine goesL_ (some 16) rfl rfl Try.func13 (by kernel_rfl) rfl #[] rfl (by (try simp only [List.map_toArray, List.map_cons, List.map_nil]); first | done | rfl | (simp only [List.length_drop, List.length_take]; rfl)) ?_; (with_reducible refine (federationlaw1_known.calls k  true _ A5.out).mono ?_); rintro e w20 ⟨rfl, hb⟩; refine ⟨_, rfl, ?_⟩; have n0_ := Aside0.mk (below_step (by repeat (first | (with_reducible first | exact HB.out | apply below_alloc | apply pw_below_drewN | apply below_drew1) | exact HB.out)) hb); clear HB; have HB := n0_; clear n0_; (try clear hb); (try clear hb2); (try clear hk); (try clear hi)) | ((with_reducible refine gate_callee (f := 17) rfl ?_); refine goesL_ (some 19) rfl rfl Try.func17 (by kernel_rfl) rfl #[.int .i64 a0, .int .i64 2000000] rfl (by (try simp only [List.map_toArray, List.map_cons, List.map_nil]); first | done | rfl | (simp only [List.length_drop, List.length_take]; rfl)) ?_; (with_reducible refine (federationlaw1_within.calls a0 2000000 t102 _ A7.out).mono ?_); rintro e w' ⟨rfl, ⟨nd, rfl⟩⟩; refine ⟨_, rfl, ?_⟩; (try (rw [drewN_self w20]; generalize hq_ : World.drewN w20 _ = w20; have n0_ : Aside0 (Below w.heap.size w w20) := ⟨by rw [← hq_]; exact (by repeat (first | (with_reducible first | exact HB.out | apply below_alloc | apply pw_below_drewN | apply below_drew1) | exact HB.out))⟩; clear HB hq_; have HB := n0_; clear n0_))) | ((with_reducible refine gate_callee (f := 17) rfl ?_); refine goesL_ (some 22) rfl rfl Try.func17 (by kernel_rfl) rfl #[.int .i64 a1, .int .i64 7] rfl (by (try simp only [List.map_toArray, List.map_cons, List.map_nil]); first | done | rfl | (simp only [List.length_drop, List.length_take]; rfl)) ?_; (with_reducible refine (federationlaw1_within.calls a1 7 t103 _ A8.out).mono ?_); rintro e w' ⟨rfl, ⟨nd, rfl⟩⟩; refine ⟨_, rfl, ?_⟩; (try (rw [drewN_self w20]; generalize hq_ : World.drewN w20 _ = w20; have n0_ : Aside0 (Below w.heap.size w w20) := ⟨by rw [← hq_]; exact (by repeat (first | (with_reducible first | exact HB.out | apply below_alloc | apply pw_below_drewN | apply below_drew1) | exact HB.out))⟩; clear HB hq_; have HB := n0_; clear n0_))) | ((with_reducible refine gate_callee (f := 19) rfl ?_); refine goesL_ (some 24) rfl rfl Try.func19 (by kernel_rfl) rfl #[.agg #[.int .i64 3, .int .i64 (wrap64 (t102 - 1000000)), .int .i64 t103, .string (⟨#[]⟩ : ByteArray)]] rfl (by (try simp only [List.map_toArray, List.map_cons, List.map_nil]); first | done | rfl | (simp only [List.length_drop, List.length_take]; rfl)) ?_; (with_reducible refine (federationref1_Norm.calls k 3 (wrap64 (t102 - 1000000)) t103 (⟨#[]⟩ : ByteArray) t104 t105 t106 t107 _ A9.out).mono ?_); rintro e w21 ⟨rfl, hb⟩; refine ⟨_, rfl, ?_⟩; have n0_ := Aside0.mk (below_step (by repeat (first | (with_reducible first | exact HB.out | apply below_alloc | apply pw_below_drewN | apply below_drew1) | exact HB.out)) hb); clear HB; have HB := n0_; clear n0_; (try clear hb); (try clear hb2); (try clear hk); (try clear hi)) | ((with_reducible refine gate_dst (N := 9) rfl ?_); refine box_event ?hg (N := 9) ?hd (cs := #[.int .i64 0, .int .i64 0, .int .i64 0, .string (⟨#[]⟩ : ByteArray)]) (t := 23) ?hr ?_; (case hd => rfl); (case hg => rfl); (case hr => first | (go_simp; done) | (go_simp; rfl)); intro gb108 hg w22 hbox hb; have n0_ := Aside0.mk (below_step (by repeat (first | (with_reducible first | exact HB.out | apply below_alloc | apply pw_below_drewN | apply below_drew1) | exact HB.out)) hb); have n1_ := Aside0.mk (hbox); have n2_ := Aside0.mk ((by rw [hg]; exact (below_size (by repeat (first | (with_reducible first | exact HB.out | apply below_alloc | apply pw_below_drewN | apply below_drew1) | exact HB.out))) : w.heap.size ≤ gb108)); have n3_ := Aside0.mk ((by rw [hg]; exact (below_size (by repeat (first | (with_reducible first | exact HB.out | apply below_alloc | apply pw_below_drewN | apply below_drew1) | exact HB.out))) : w.heap.size ≤ gb108)); clear HB; have HB := n0_; have BK108 := n1_; have GW108 := n2_; have GE108 := n3_; clear n0_ n1_ n2_ n3_; clear hb hbox hg; have hcz23_0 : w22.cell? ⟨gb108, 0, none⟩ = some (.int .i64 0) := (blk_cell BK108.out 0).trans rfl; have hcz23_1 : w22.cell? ⟨gb108, 1, none⟩ = some (.int .i64 0) := (blk_cell BK108.out 1).trans rfl; have hcz23_2 : w22.cell? ⟨gb108, 2, none⟩ = some (.int .i64 0) := (blk_cell BK108.out 2).trans rfl; have hcz23_3 : w22.cell? ⟨gb108, 3, none⟩ = some (.string (⟨#[]⟩ : ByteArray)) := (blk_cell BK108.out 3).trans rfl; have hfz23_0 := blk_frozen BK108.out 0; have hfz23_1 := blk_frozen BK108.out 1; have hfz23_2 := blk_frozen BK108.out 2; have hfz23_3 := blk_frozen BK108.out 3) | ((with_reducible refine gate_callee (f := 17) rfl ?_); refine goesL_ (some 26) rfl rfl Try.func17 (by kernel_rfl) rfl #[.int .i64 a2, .int .i64 2000000] rfl (by (try simp only [List.map_toArray, List.map_cons, List.map_nil]); first | done | rfl | (simp only [List.length_drop, List.length_take]; rfl)) ?_; (with_reducible refine (federationlaw1_within.calls a2 2000000 t109 _ A10.out).mono ?_); rintro e w' ⟨rfl, ⟨nd, rfl⟩⟩; refine ⟨_, rfl, ?_⟩) | ((with_reducible refine gate_callee (f := 17) rfl ?_); refine goesL_ (some 29) rfl rfl Try.func17 (by kernel_rfl) rfl #[.int .i64 a3, .int .i64 7] rfl (by (try simp only [List.map_toArray, List.map_cons, List.map_nil]); first | done | rfl | (simp only [List.length_drop, List.length_take]; rfl)) ?_; (with_reducible refine (federationlaw1_within.calls a3 7 t110 _ A11.out).mono ?_); rintro e w' ⟨rfl, ⟨nd, rfl⟩⟩; refine ⟨_, rfl, ?_⟩) | ((with_reducible refine gate_callee (f := 19) rfl ?_); refine goesL_ (some 31) rfl rfl Try.func19 (by kernel_rfl) rfl #[.agg #[.int .i64 3, .int .i64 (wrap64 (t109 - 1000000)), .int .i64 t110, .string (⟨#[]⟩ : ByteArray)]] rfl (by (try simp only [List.map_toArray, List.map_cons, List.map_nil]); first | done | rfl | (simp only [List.length_drop, List.length_take]; rfl)) ?_; (with_reducible refine (federationref1_Norm.calls k 3 (wrap64 (t109 - 1000000)) t110 (⟨#[]⟩ : ByteArray) t111 t112 t113 t114 _ A12.out).mono ?_); rintro e w24 ⟨rfl, hb⟩; refine ⟨_, rfl, ?_⟩; have n0_ := Aside0.mk (blk_below (g := gb108) (o := .cells #[.int .i64 t104, .int .i64 t105, .int .i64 t106, .string t107] 23 (0, 0)) (by (with_reducible repeat (first | refine blk_drewN ?_ _ | refine blk_drew ?_ | refine blk_alloc ?_ _)); refine blk_put (cs := #[.int .i64 t104, .int .i64 t105, .int .i64 t106, .string (⟨#[]⟩ : ByteArray)]) ?_ 3 _ rfl; (with_reducible repeat (first | refine blk_drewN ?_ _ | refine blk_drew ?_ | refine blk_alloc ?_ _)); refine blk_put (cs := #[.int .i64 t104, .int .i64 t105, .int .i64 0, .string (⟨#[]⟩ : ByteArray)]) ?_ 2 _ rfl; (with_reducible repeat (first | refine blk_drewN ?_ _ | refine blk_drew ?_ | refine blk_alloc ?_ _)); refine blk_put (cs := #[.int .i64 t104, .int .i64 0, .int .i64 0, .string (⟨#[]⟩ : ByteArray)]) ?_ 1 _ rfl; (with_reducible repeat (first | refine blk_drewN ?_ _ | refine blk_drew ?_ | refine blk_alloc ?_ _)); refine blk_put (cs := #[.int .i64 0, .int .i64 0, .int .i64 0, .string (⟨#[]⟩ : ByteArray)]) ?_ 0 _ rfl; (with_reducible repeat (first | refine blk_drewN ?_ _ | refine blk_drew ?_ | refine blk_alloc ?_ _)); exact BK108.out) hb); have n1_ := Aside0.mk (below_step (by repeat (first | (with_reducible first | exact HB.out | apply below_alloc | apply pw_below_drewN | apply below_drew1 | refine below_set ?_ GE108.out) | exact HB.out)) hb); clear BK108; clear HB; have BK108 := n0_; have HB := n1_; clear n0_ n1_; (try clear hb); (try clear hb2); (try clear hk); (try clear hi)) | ((with_reducible refine gate_dst (N := 10) rfl ?_); refine box_event ?hg (N := 10) ?hd (cs := #[.int .i64 0, .int .i64 0, .int .i64 0, .string (⟨#[]⟩ : ByteArray)]) (t := 23) ?hr ?_; (case hd => rfl); (case hg => rfl); (case hr => first | (go_simp; done) | (go_simp; rfl)); intro gb115 hg w25 hbox hb; have n0_ := Aside0.mk (blk_below (g := gb108) (o := .cells #[.int .i64 t104, .int .i64 t105, .int .i64 t106, .string t107] 23 (0, 0)) (by (with_reducible repeat (first | refine blk_drewN ?_ _ | refine blk_drew ?_ | refine blk_alloc ?_ _)); exact BK108.out) hb); have n1_ := Aside0.mk (below_step (by repeat (first | (with_reducible first | exact HB.out | apply below_alloc | apply pw_below_drewN | apply below_drew1 | refine below_set ?_ GE108.out) | exact HB.out)) hb); have n2_ := Aside0.mk (hbox); have n3_ := Aside0.mk ((by rw [hg]; exact (below_size (by repeat (first | (with_reducible first | exact HB.out | apply below_alloc | apply pw_below_drewN | apply below_drew1 | refine below_set ?_ GE108.out) | exact HB.out))) : w.heap.size ≤ gb115)); have n4_ := Aside0.mk ((by rw [hg]; exact (below_size (by repeat (first | (with_reducible first | exact HB.out | apply below_alloc | apply pw_below_drewN | apply below_drew1 | refine below_set ?_ GE108.out) | exact HB.out))) : w.heap.size ≤ gb115)); have n5_ := Aside0.mk ((by rw [hg]; exact Nat.ne_of_lt (blk_lt (g := gb108) (o := .cells #[.int .i64 t104, .int .i64 t105, .int .i64 t106, .string t107] 23 (0, 0)) (by (with_reducible repeat (first | refine blk_drewN ?_ _ | refine blk_drew ?_ | refine blk_alloc ?_ _)); exact BK108.out)) : gb108 ≠ gb115)); have n6_ := Aside0.mk ((by rw [hg]; exact Nat.ne_of_gt (blk_lt (g := gb108) (o := .cells #[.int .i64 t104, .int .i64 t105, .int .i64 t106, .string t107] 23 (0, 0)) (by (with_reducible repeat (first | refine blk_drewN ?_ _ | refine blk_drew ?_ | refine blk_alloc ?_ _)); exact BK108.out)) : gb115 ≠ gb108)); clear BK108; clear HB; have BK108 := n0_; have HB := n1_; have BK115 := n2_; have GW115 := n3_; have GE115 := n4_; have NB108_115 := n5_; have NB115_108 := n6_; clear n0_ n1_ n2_ n3_ n4_ n5_ n6_; clear hb hbox hg; have hnb26 := NB115_108.out; have hnc26 := NB108_115.out; have hcz27_0 : w25.cell? ⟨gb115, 0, none⟩ = some (.int .i64 0) := (blk_cell BK115.out 0).trans rfl; have hcz27_1 : w25.cell? ⟨gb115, 1, none⟩ = some (.int .i64 0) := (blk_cell BK115.out 1).trans rfl; have hcz27_2 : w25.cell? ⟨gb115, 2, none⟩ = some (.int .i64 0) := (blk_cell BK115.out 2).trans rfl; have hcz27_3 : w25.cell? ⟨gb115, 3, none⟩ = some (.string (⟨#[]⟩ : ByteArray)) := (blk_cell BK115.out 3).trans rfl; have hfz27_0 := blk_frozen BK115.out 0; have hfz27_1 := blk_frozen BK115.out 1; have hfz27_2 := blk_frozen BK115.out 2; have hfz27_3 := blk_frozen BK115.out 3; have hcz28_0 : w25.cell? ⟨gb108, 0, none⟩ = some (.int .i64 t104) := (blk_cell BK108.out 0).trans rfl; have hcz28_1 : w25.cell? ⟨gb108, 1, none⟩ = some (.int .i64 t105) := (blk_cell BK108.out 1).trans rfl; have hcz28_2 : w25.cell? ⟨gb108, 2, none⟩ = some (.int .i64 t106) := (blk_cell BK108.out 2).trans rfl; have hcz28_3 : w25.cell? ⟨gb108, 3, none⟩ = some (.string t107) := (blk_cell BK108.out 3).trans rfl; have hfz28_0 := blk_frozen BK108.out 0; have hfz28_1 := blk_frozen BK108.out 1; have hfz28_2 := blk_frozen BK108.out 2; have hfz28_3 := blk_frozen BK108.out 3) | ((with_reducible refine gate_callee (f := 20) rfl ?_); refine goesL_ (some 35) rfl rfl Try.func20 (by kernel_rfl) rfl #[.int .i64 8, .agg #[.int .i64 t104, .int .i64 t105, .int .i64 t106, .string t107], .agg #[.int .i64 t111, .int .i64 t112, .int .i64 t113, .string t114]] rfl (by (try simp only [List.map_toArray, List.map_cons, List.map_nil]); first | done | rfl | (simp only [List.length_drop, List.length_take]; rfl)) ?_; (with_reducible refine (val_Reckon.calls k 8 t104 t105 t106 t107 t111 t112 t113 t114 t116 t117 t118 t119 t120 _ A13.out).mono ?_); rintro e w29 ⟨rfl, hb⟩; refine ⟨_, rfl, ?_⟩; have n0_ := Aside0.mk (blk_below (g := gb108) (o := .cells #[.int .i64 t104, .int .i64 t105, .int .i64 t106, .string t107] 23 (0, 0)) (by (with_reducible repeat (first | refine blk_drewN ?_ _ | refine blk_drew ?_ | refine blk_alloc ?_ _)); refine blk_far ?_ NB108_115.out _; (with_reducible repeat (first | refine blk_drewN ?_ _ | refine blk_drew ?_ | refine blk_alloc ?_ _)); refine blk_far ?_ NB108_115.out _; (with_reducible repeat (first | refine blk_drewN ?_ _ | refine blk_drew ?_ | refine blk_alloc ?_ _)); refine blk_far ?_ NB108_115.out _; (with_reducible repeat (first | refine blk_drewN ?_ _ | refine blk_drew ?_ | refine blk_alloc ?_ _)); refine blk_far ?_ NB108_115.out _; (with_reducible repeat (first | refine blk_drewN ?_ _ | refine blk_drew ?_ | refine blk_alloc ?_ _)); exact BK108.out) hb); have n1_ := Aside0.mk (blk_below (g := gb115) (o := .cells #[.int .i64 t111, .int .i64 t112, .int .i64 t113, .string t114] 23 (0, 0)) (by (with_reducible repeat (first | refine blk_drewN ?_ _ | refine blk_drew ?_ | refine blk_alloc ?_ _)); refine blk_put (cs := #[.int .i64 t111, .int .i64 t112, .int .i64 t113, .string (⟨#[]⟩ : ByteArray)]) ?_ 3 _ rfl; (with_reducible repeat (first | refine blk_drewN ?_ _ | refine blk_drew ?_ | refine blk_alloc ?_ _)); refine blk_put (cs := #[.int .i64 t111, .int .i64 t112, .int .i64 0, .string (⟨#[]⟩ : ByteArray)]) ?_ 2 _ rfl; (with_reducible repeat (first | refine blk_drewN ?_ _ | refine blk_drew ?_ | refine blk_alloc ?_ _)); refine blk_put (cs := #[.int .i64 t111, .int .i64 0, .int .i64 0, .string (⟨#[]⟩ : ByteArray)]) ?_ 1 _ rfl; (with_reducible repeat (first | refine blk_drewN ?_ _ | refine blk_drew ?_ | refine blk_alloc ?_ _)); refine blk_put (cs := #[.int .i64 0, .int .i64 0, .int .i64 0, .string (⟨#[]⟩ : ByteArray)]) ?_ 0 _ rfl; (with_reducible repeat (first | refine blk_drewN ?_ _ | refine blk_drew ?_ | refine blk_alloc ?_ _)); exact BK115.out) hb); have n2_ := Aside0.mk (below_step (by repeat (first | (with_reducible first | exact HB.out | apply below_alloc | apply pw_below_drewN | apply below_drew1 | refine below_set ?_ GE108.out | refine below_set ?_ GE115.out) | exact HB.out)) hb); clear BK108; clear BK115; clear HB; have BK108 := n0_; have BK115 := n1_; have HB := n2_; clear n0_ n1_ n2_; (try clear hb); (try clear hb2); (try clear hk); (try clear hi)) | ((with_reducible refine gate_dst (N := 11) rfl ?_); refine box_event ?hg (N := 11) ?hd (cs := #[.int .i64 0, .int .i64 0, .int .i64 0, .string (⟨#[]⟩ : ByteArray)]) (t := 23) ?hr ?_; (case hd => rfl); (case hg => rfl); (case hr => first | (go_simp; done) | (go_simp; rfl)); intro gb121 hg w30 hbox hb; have n0_ := Aside0.mk (blk_below (g := gb108) (o := .cells #[.int .i64 t104, .int .i64 t105, .int .i64 t106, .string t107] 23 (0, 0)) (by (with_reducible repeat (first | refine blk_drewN ?_ _ | refine blk_drew ?_ | refine blk_alloc ?_ _)); exact BK108.out) hb); have n1_ := Aside0.mk (blk_below (g := gb115) (o := .cells #[.int .i64 t111, .int .i64 t112, .int .i64 t113, .string t114] 23 (0, 0)) (by (with_reducible repeat (first | refine blk_drewN ?_ _ | refine blk_drew ?_ | refine blk_alloc ?_ _)); exact BK115.out) hb); have n2_ := Aside0.mk (below_step (by repeat (first | (with_reducible first | exact HB.out | apply below_alloc | apply pw_below_drewN | apply below_drew1 | refine below_set ?_ GE108.out | refine below_set ?_ GE115.out) | exact HB.out)) hb); have n3_ := Aside0.mk (hbox); have n4_ := Aside0.mk ((by rw [hg]; exact (below_size (by repeat (first | (with_reducible first | exact HB.out | apply below_alloc | apply pw_below_drewN | apply below_drew1 | refine below_set ?_ GE108.out | refine below_set ?_ GE115.out) | exact HB.out))) : w.heap.size ≤ gb121)); have n5_ := Aside0.mk ((by rw [hg]; exact (below_size (by repeat (first | (with_reducible first | exact HB.out | apply below_alloc | apply pw_below_drewN | apply below_drew1 | refine below_set ?_ GE108.out | refine below_set ?_ GE115.out) | exact HB.out))) : w.heap.size ≤ gb121)); have n6_ := Aside0.mk ((by rw [hg]; exact Nat.ne_of_lt (blk_lt (g := gb108) (o := .cells #[.int .i64 t104, .int .i64 t105, .int .i64 t106, .string t107] 23 (0, 0)) (by (with_reducible repeat (first | refine blk_drewN ?_ _ | refine blk_drew ?_ | refine blk_alloc ?_ _)); exact BK108.out)) : gb108 ≠ gb121)); have n7_ := Aside0.mk ((by rw [hg]; exact Nat.ne_of_gt (blk_lt (g := gb108) (o := .cells #[.int .i64 t104, .int .i64 t105, .int .i64 t106, .string t107] 23 (0, 0)) (by (with_reducible repeat (first | refine blk_drewN ?_ _ | refine blk_drew ?_ | refine blk_alloc ?_ _)); exact BK108.out)) : gb121 ≠ gb108)); have n8_ := Aside0.mk ((by rw [hg]; exact Nat.ne_of_lt (blk_lt (g := gb115) (o := .cells #[.int .i64 t111, .int .i64 t112, .int .i64 t113, .string t114] 23 (0, 0)) (by (with_reducible repeat (first | refine blk_drewN ?_ _ | refine blk_drew ?_ | refine blk_alloc ?_ _)); exact BK115.out)) : gb115 ≠ gb121)); have n9_ := Aside0.mk ((by rw [hg]; exact Nat.ne_of_gt (blk_lt (g := gb115) (o := .cells #[.int .i64 t111, .int .i64 t112, .int .i64 t113, .string t114] 23 (0, 0)) (by (with_reducible repeat (first | refine blk_drewN ?_ _ | refine blk_drew ?_ | refine blk_alloc ?_ _)); exact BK115.out)) : gb121 ≠ gb115)); clear BK108; clear BK115; clear HB; have BK108 := n0_; have BK115 := n1_; have HB := n2_; have BK121 := n3_; have GW121 := n4_; have GE121 := n5_; have NB108_121 := n6_; have NB121_108 := n7_; have NB115_121 := n8_; have NB121_115 := n9_; clear n0_ n1_ n2_ n3_ n4_ n5_ n6_ n7_ n8_ n9_; clear hb hbox hg; have hnb31 := NB121_108.out; have hnc31 := NB108_121.out; have hnb32 := NB121_115.out; have hnc32 := NB115_121.out; have hcz33_0 : w30.cell? ⟨gb121, 0, none⟩ = some (.int .i64 0) := (blk_cell BK121.out 0).trans rfl; have hcz33_1 : w30.cell? ⟨gb121, 1, none⟩ = some (.int .i64 0) := (blk_cell BK121.out 1).trans rfl; have hcz33_2 : w30.cell? ⟨gb121, 2, none⟩ = some (.int .i64 0) := (blk_cell BK121.out 2).trans rfl; have hcz33_3 : w30.cell? ⟨gb121, 3, none⟩ = some (.string (⟨#[]⟩ : ByteArray)) := (blk_cell BK121.out 3).trans rfl; have hfz33_0 := blk_frozen BK121.out 0; have hfz33_1 := blk_frozen BK121.out 1; have hfz33_2 := blk_frozen BK121.out 2; have hfz33_3 := blk_frozen BK121.out 3; have hcz34_0 : w30.cell? ⟨gb108, 0, none⟩ = some (.int .i64 t104) := (blk_cell BK108.out 0).trans rfl; have hcz34_1 : w30.cell? ⟨gb108, 1, none⟩ = some (.int .i64 t105) := (blk_cell BK108.out 1).trans rfl; have hcz34_2 : w30.cell? ⟨gb108, 2, none⟩ = some (.int .i64 t106) := (blk_cell BK108.out 2).trans rfl; have hcz34_3 : w30.cell? ⟨gb108, 3, none⟩ = some (.string t107) := (blk_cell BK108.out 3).trans rfl; have hfz34_0 := blk_frozen BK108.out 0; have hfz34_1 := blk_frozen BK108.out 1; have hfz34_2 := blk_frozen BK108.out 2; have hfz34_3 := blk_frozen BK108.out 3) | ((with_reducible refine gate_callee (f := 20) rfl ?_); refine goesL_ (some 41) rfl rfl Try.func20 (by kernel_rfl) rfl #[.int .i64 8, .agg #[.int .i64 t104, .int .i64 t105, .int .i64 t106, .string t107], .agg #[.int .i64 t104, .int .i64 t105, .int .i64 t106, .string t107]] rfl (by (try simp only [List.map_toArray, List.map_cons, List.map_nil]); first | done | rfl | (simp only [List.length_drop, List.length_take]; rfl)) ?_; (with_reducible refine (val_Reckon.calls k 8 t104 t105 t106 t107 t104 t105 t106 t107 t122 t123 t124 t125 t126 _ A14.out).mono ?_); rintro e w35 ⟨rfl, hb⟩; refine ⟨_, rfl, ?_⟩; have n0_ := Aside0.mk (blk_below (g := gb108) (o := .cells #[.int .i64 t104, .int .i64 t105, .int .i64 t106, .string t107] 23 (0, 0)) (by (with_reducible repeat (first | refine blk_drewN ?_ _ | refine blk_drew ?_ | refine blk_alloc ?_ _)); refine blk_far ?_ NB108_121.out _; (with_reducible repeat (first | refine blk_drewN ?_ _ | refine blk_drew ?_ | refine blk_alloc ?_ _)); refine blk_far ?_ NB108_121.out _; (with_reducible repeat (first | refine blk_drewN ?_ _ | refine blk_drew ?_ | refine blk_alloc ?_ _)); refine blk_far ?_ NB108_121.out _; (with_reducible repeat (first | refine blk_drewN ?_ _ | refine blk_drew ?_ | refine blk_alloc ?_ _)); refine blk_far ?_ NB108_121.out _; (with_reducible repeat (first | refine blk_drewN ?_ _ | refine blk_drew ?_ | refine blk_alloc ?_ _)); exact BK108.out) hb); have n1_ := Aside0.mk (blk_below (g := gb115) (o := .cells #[.int .i64 t111, .int .i64 t112, .int .i64 t113, .string t114] 23 (0, 0)) (by (with_reducible repeat (first | refine blk_drewN ?_ _ | refine blk_drew ?_ | refine blk_alloc ?_ _)); refine blk_far ?_ NB115_121.out _; (with_reducible repeat (first | refine blk_drewN ?_ _ | refine blk_drew ?_ | refine blk_alloc ?_ _)); refine blk_far ?_ NB115_121.out _; (with_reducible repeat (first | refine blk_drewN ?_ _ | refine blk_drew ?_ | refine blk_alloc ?_ _)); refine blk_far ?_ NB115_121.out _; (with_reducible repeat (first | refine blk_drewN ?_ _ | refine blk_drew ?_ | refine blk_alloc ?_ _)); refine blk_far ?_ NB115_121.out _; (with_reducible repeat (first | refine blk_drewN ?_ _ | refine blk_drew ?_ | refine blk_alloc ?_ _)); exact BK115.out) hb); have n2_ := Aside0.mk (blk_below (g := gb121) (o := .cells #[.int .i64 t116, .int .i64 t117, .int .i64 t118, .string t119] 23 (0, 0)) (by (with_reducible repeat (first | refine blk_drewN ?_ _ | refine blk_drew ?_ | refine blk_alloc ?_ _)); refine blk_put (cs := #[.int .i64 t116, .int .i64 t117, .int .i64 t118, .string (⟨#[]⟩ : ByteArray)]) ?_ 3 _ rfl; (with_reducible repeat (first | refine blk_drewN ?_ _ | refine blk_drew ?_ | refine blk_alloc ?_ _)); refine blk_put (cs := #[.int .i64 t116, .int .i64 t117, .int .i64 0, .string (⟨#[]⟩ : ByteArray)]) ?_ 2 _ rfl; (with_reducible repeat (first | refine blk_drewN ?_ _ | refine blk_drew ?_ | refine blk_alloc ?_ _)); refine blk_put (cs := #[.int .i64 t116, .int .i64 0, .int .i64 0, .string (⟨#[]⟩ : ByteArray)]) ?_ 1 _ rfl; (with_reducible repeat (first | refine blk_drewN ?_ _ | refine blk_drew ?_ | refine blk_alloc ?_ _)); refine blk_put (cs := #[.int .i64 0, .int .i64 0, .int .i64 0, .string (⟨#[]⟩ : ByteArray)]) ?_ 0 _ rfl; (with_reducible repeat (first | refine blk_drewN ?_ _ | refine blk_drew ?_ | refine blk_alloc ?_ _)); exact BK121.out) hb); have n3_ := Aside0.mk (below_step (by repeat (first | (with_reducible first | exact HB.out | apply below_alloc | apply pw_below_drewN | apply below_drew1 | refine below_set ?_ GE108.out | refine below_set ?_ GE115.out | refine below_set ?_ GE121.out) | exact HB.out)) hb); clear BK108; clear BK115; clear BK121; clear HB; have BK108 := n0_; have BK115 := n1_; have BK121 := n2_; have HB := n3_; clear n0_ n1_ n2_ n3_; (try clear hb); (try clear hb2); (try clear hk); (try clear hi)) | ((with_reducible refine gate_dst (N := 13) rfl ?_); refine box_event ?hg (N := 13) ?hd (cs := #[.int .i64 0, .int .i64 0, .int .i64 0, .string (⟨#[]⟩ : ByteArray)]) (t := 23) ?hr ?_; (case hd => rfl); (case hg => rfl); (case hr => first | (go_simp; done) | (go_simp; rfl)); intro gb127 hg w36 hbox hb; have n0_ := Aside0.mk (blk_below (g := gb108) (o := .cells #[.int .i64 t104, .int .i64 t105, .int .i64 t106, .string t107] 23 (0, 0)) (by (with_reducible repeat (first | refine blk_drewN ?_ _ | refine blk_drew ?_ | refine blk_alloc ?_ _)); exact BK108.out) hb); have n1_ := Aside0.mk (blk_below (g := gb115) (o := .cells #[.int .i64 t111, .int .i64 t112, .int .i64 t113, .string t114] 23 (0, 0)) (by (with_reducible repeat (first | refine blk_drewN ?_ _ | refine blk_drew ?_ | refine blk_alloc ?_ _)); exact BK115.out) hb); have n2_ := Aside0.mk (blk_below (g := gb121) (o := .cells #[.int .i64 t116, .int .i64 t117, .int .i64 t118, .string t119] 23 (0, 0)) (by (with_reducible repeat (first | refine blk_drewN ?_ _ | refine blk_drew ?_ | refine blk_alloc ?_ _)); exact BK121.out) hb); have n3_ := Aside0.mk (below_step (by repeat (first | (with_reducible first | exact HB.out | apply below_alloc | apply pw_below_drewN | apply below_drew1 | refine below_set ?_ GE108.out | refine below_set ?_ GE115.out | refine below_set ?_ GE121.out) | exact HB.out)) hb); have n4_ := Aside0.mk (hbox); have n5_ := Aside0.mk ((by rw [hg]; exact (below_size (by repeat (first | (with_reducible first | exact HB.out | apply below_alloc | apply pw_below_drewN | apply below_drew1 | refine below_set ?_ GE108.out | refine below_set ?_ GE115.out | refine below_set ?_ GE121.out) | exact HB.out))) : w.heap.size ≤ gb127)); have n6_ := Aside0.mk ((by rw [hg]; exact (below_size (by repeat (first | (with_reducible first | exact HB.out | apply below_alloc | apply pw_below_drewN | apply below_drew1 | refine below_set ?_ GE108.out | refine below_set ?_ GE115.out | refine below_set ?_ GE121.out) | exact HB.out))) : w.heap.size ≤ gb127)); have n7_ := Aside0.mk ((by rw [hg]; exact Nat.ne_of_lt (blk_lt (g := gb108) (o := .cells #[.int .i64 t104, .int .i64 t105, .int .i64 t106, .string t107] 23 (0, 0)) (by (with_reducible repeat (first | refine blk_drewN ?_ _ | refine blk_drew ?_ | refine blk_alloc ?_ _)); exact BK108.out)) : gb108 ≠ gb127)); have n8_ := Aside0.mk ((by rw [hg]; exact Nat.ne_of_gt (blk_lt (g := gb108) (o := .cells #[.int .i64 t104, .int .i64 t105, .int .i64 t106, .string t107] 23 (0, 0)) (by (with_reducible repeat (first | refine blk_drewN ?_ _ | refine blk_drew ?_ | refine blk_alloc ?_ _)); exact BK108.out)) : gb127 ≠ gb108)); have n9_ := Aside0.mk ((by rw [hg]; exact Nat.ne_of_lt (blk_lt (g := gb115) (o := .cells #[.int .i64 t111, .int .i64 t112, .int .i64 t113, .string t114] 23 (0, 0)) (by (with_reducible repeat (first | refine blk_drewN ?_ _ | refine blk_drew ?_ | refine blk_alloc ?_ _)); exact BK115.out)) : gb115 ≠ gb127)); have n10_ := Aside0.mk ((by rw [hg]; exact Nat.ne_of_gt (blk_lt (g := gb115) (o := .cells #[.int .i64 t111, .int .i64 t112, .int .i64 t113, .string t114] 23 (0, 0)) (by (with_reducible repeat (first | refine blk_drewN ?_ _ | refine blk_drew ?_ | refine blk_alloc ?_ _)); exact BK115.out)) : gb127 ≠ gb115)); have n11_ := Aside0.mk ((by rw [hg]; exact Nat.ne_of_lt (blk_lt (g := gb121) (o := .cells #[.int .i64 t116, .int .i64 t117, .int .i64 t118, .string t119] 23 (0, 0)) (by (with_reducible repeat (first | refine blk_drewN ?_ _ | refine blk_drew ?_ | refine blk_alloc ?_ _)); exact BK121.out)) : gb121 ≠ gb127)); have n12_ := Aside0.mk ((by rw [hg]; exact Nat.ne_of_gt (blk_lt (g := gb121) (o := .cells #[.int .i64 t116, .int .i64 t117, .int .i64 t118, .string t119] 23 (0, 0)) (by (with_reducible repeat (first | refine blk_drewN ?_ _ | refine blk_drew ?_ | refine blk_alloc ?_ _)); exact BK121.out)) : gb127 ≠ gb121)); clear BK108; clear BK115; clear BK121; clear HB; have BK108 := n0_; have BK115 := n1_; have BK121 := n2_; have HB := n3_; have BK127 := n4_; have GW127 := n5_; have GE127 := n6_; have NB108_127 := n7_; have NB127_108 := n8_; have NB115_127 := n9_; have NB127_115 := n10_; have NB121_127 := n11_; have NB127_121 := n12_; clear n0_ n1_ n2_ n3_ n4_ n5_ n6_ n7_ n8_ n9_ n10_ n11_ n12_; clear hb hbox hg; have hnb37 := NB127_108.out; have hnc37 := NB108_127.out; have hnb38 := NB127_115.out; have hnc38 := NB115_127.out; have hnb39 := NB127_121.out; have hnc39 := NB121_127.out; have hcz40_0 : w36.cell? ⟨gb127, 0, none⟩ = some (.int .i64 0) := (blk_cell BK127.out 0).trans rfl; have hcz40_1 : w36.cell? ⟨gb127, 1, none⟩ = some (.int .i64 0) := (blk_cell BK127.out 1).trans rfl; have hcz40_2 : w36.cell? ⟨gb127, 2, none⟩ = some (.int .i64 0) := (blk_cell BK127.out 2).trans rfl; have hcz40_3 : w36.cell? ⟨gb127, 3, none⟩ = some (.string (⟨#[]⟩ : ByteArray)) := (blk_cell BK127.out 3).trans rfl; have hfz40_0 := blk_frozen BK127.out 0; have hfz40_1 := blk_frozen BK127.out 1; have hfz40_2 := blk_frozen BK127.out 2; have hfz40_3 := blk_frozen BK127.out 3) | ((with_reducible refine gate_dst (N := 15) rfl ?_); refine box_event ?hg (N := 15) ?hd (cs := #[.int .i64 0, .int .i64 0, .int .i64 0, .string (⟨#[]⟩ : ByteArray)]) (t := 23) ?hr ?_; (case hd => rfl); (case hg => rfl); (case hr => first | (go_simp; done) | (go_simp; rfl)); intro gb128 hg w41 hbox hb; have n0_ := Aside0.mk (blk_below (g := gb108) (o := .cells #[.int .i64 t104, .int .i64 t105, .int .i64 t106, .string t107] 23 (0, 0)) (by (with_reducible repeat (first | refine blk_drewN ?_ _ | refine blk_drew ?_ | refine blk_alloc ?_ _)); refine blk_far ?_ NB108_127.out _; (with_reducible repeat (first | refine blk_drewN ?_ _ | refine blk_drew ?_ | refine blk_alloc ?_ _)); refine blk_far ?_ NB108_127.out _; (with_reducible repeat (first | refine blk_drewN ?_ _ | refine blk_drew ?_ | refine blk_alloc ?_ _)); refine blk_far ?_ NB108_127.out _; (with_reducible repeat (first | refine blk_drewN ?_ _ | refine blk_drew ?_ | refine blk_alloc ?_ _)); refine blk_far ?_ NB108_127.out _; (with_reducible repeat (first | refine blk_drewN ?_ _ | refine blk_drew ?_ | refine blk_alloc ?_ _)); exact BK108.out) hb); have n1_ := Aside0.mk (blk_below (g := gb115) (o := .cells #[.int .i64 t111, .int .i64 t112, .int .i64 t113, .string t114] 23 (0, 0)) (by (with_reducible repeat (first | refine blk_drewN ?_ _ | refine blk_drew ?_ | refine blk_alloc ?_ _)); refine blk_far ?_ NB115_127.out _; (with_reducible repeat (first | refine blk_drewN ?_ _ | refine blk_drew ?_ | refine blk_alloc ?_ _)); refine blk_far ?_ NB115_127.out _; (with_reducible repeat (first | refine blk_drewN ?_ _ | refine blk_drew ?_ | refine blk_alloc ?_ _)); refine blk_far ?_ NB115_127.out _; (with_reducible repeat (first | refine blk_drewN ?_ _ | refine blk_drew ?_ | refine blk_alloc ?_ _)); refine blk_far ?_ NB115_127.out _; (with_reducible repeat (first | refine blk_drewN ?_ _ | refine blk_drew ?_ | refine blk_alloc ?_ _)); exact BK115.out) hb); have n2_ := Aside0.mk (blk_below (g := gb121) (o := .cells #[.int .i64 t116, .int .i64 t117, .int .i64 t118, .string t119] 23 (0, 0)) (by (with_reducible repeat (first | refine blk_drewN ?_ _ | refine blk_drew ?_ | refine blk_alloc ?_ _)); refine blk_far ?_ NB121_127.out _; (with_reducible repeat (first | refine blk_drewN ?_ _ | refine blk_drew ?_ | refine blk_alloc ?_ _)); refine blk_far ?_ NB121_127.out _; (with_reducible repeat (first | refine blk_drewN ?_ _ | refine blk_drew ?_ | refine blk_alloc ?_ _)); refine blk_far ?_ NB121_127.out _; (with_reducible repeat (first | refine blk_drewN ?_ _ | refine blk_drew ?_ | refine blk_alloc ?_ _)); refine blk_far ?_ NB121_127.out _; (with_reducible repeat (first | refine blk_drewN ?_ _ | refine blk_drew ?_ | refine blk_alloc ?_ _)); exact BK121.out) hb); have n3_ := Aside0.mk (blk_below (g := gb127) (o := .cells #[.int .i64 t122, .int .i64 t123, .int .i64 t124, .string t125] 23 (0, 0)) (by (with_reducible repeat (first | refine blk_drewN ?_ _ | refine blk_drew ?_ | refine blk_alloc ?_ _)); refine blk_put (cs := #[.int .i64 t122, .int .i64 t123, .int .i64 t124, .string (⟨#[]⟩ : ByteArray)]) ?_ 3 _ rfl; (with_reducible repeat (first | refine blk_drewN ?_ _ | refine blk_drew ?_ | refine blk_alloc ?_ _)); refine blk_put (cs := #[.int .i64 t122, .int .i64 t123, .int .i64 0, .string (⟨#[]⟩ : ByteArray)]) ?_ 2 _ rfl; (with_reducible repeat (first | refine blk_drewN ?_ _ | refine blk_drew ?_ | refine blk_alloc ?_ _)); refine blk_put (cs := #[.int .i64 t122, .int .i64 0, .int .i64 0, .string (⟨#[]⟩ : ByteArray)]) ?_ 1 _ rfl; (with_reducible repeat (first | refine blk_drewN ?_ _ | refine blk_drew ?_ | refine blk_alloc ?_ _)); refine blk_put (cs := #[.int .i64 0, .int .i64 0, .int .i64 0, .string (⟨#[]⟩ : ByteArray)]) ?_ 0 _ rfl; (with_reducible repeat (first | refine blk_drewN ?_ _ | refine blk_drew ?_ | refine blk_alloc ?_ _)); exact BK127.out) hb); have n4_ := Aside0.mk (below_step (by repeat (first | (with_reducible first | exact HB.out | apply below_alloc | apply pw_below_drewN | apply below_drew1 | refine below_set ?_ GE108.out | refine below_set ?_ GE115.out | refine below_set ?_ GE121.out | refine below_set ?_ GE127.out) | exact HB.out)) hb); have n5_ := Aside0.mk (hbox); have n6_ := Aside0.mk ((by rw [hg]; exact (below_size (by repeat (first | (with_reducible first | exact HB.out | apply below_alloc | apply pw_below_drewN | apply below_drew1 | refine below_set ?_ GE108.out | refine below_set ?_ GE115.out | refine below_set ?_ GE121.out | refine below_set ?_ GE127.out) | exact HB.out))) : w.heap.size ≤ gb128)); have n7_ := Aside0.mk ((by rw [hg]; exact (below_size (by repeat (first | (with_reducible first | exact HB.out | apply below_alloc | apply pw_below_drewN | apply below_drew1 | refine below_set ?_ GE108.out | refine below_set ?_ GE115.out | refine below_set ?_ GE121.out | refine below_set ?_ GE127.out) | exact HB.out))) : w.heap.size ≤ gb128)); have n8_ := Aside0.mk ((by rw [hg]; exact Nat.ne_of_lt (blk_lt (g := gb108) (o := .cells #[.int .i64 t104, .int .i64 t105, .int .i64 t106, .string t107] 23 (0, 0)) (by (with_reducible repeat (first | refine blk_drewN ?_ _ | refine blk_drew ?_ | refine blk_alloc ?_ _)); refine blk_far ?_ NB108_127.out _; (with_reducible repeat (first | refine blk_drewN ?_ _ | refine blk_drew ?_ | refine blk_alloc ?_ _)); refine blk_far ?_ NB108_127.out _; (with_reducible repeat (first | refine blk_drewN ?_ _ | refine blk_drew ?_ | refine blk_alloc ?_ _)); refine blk_far ?_ NB108_127.out _; (with_reducible repeat (first | refine blk_drewN ?_ _ | refine blk_drew ?_ | refine blk_alloc ?_ _)); refine blk_far ?_ NB108_127.out _; (with_reducible repeat (first | refine blk_drewN ?_ _ | refine blk_drew ?_ | refine blk_alloc ?_ _)); exact BK108.out)) : gb108 ≠ gb128)); have n9_ := Aside0.mk ((by rw [hg]; exact Nat.ne_of_gt (blk_lt (g := gb108) (o := .cells #[.int .i64 t104, .int .i64 t105, .int .i64 t106, .string t107] 23 (0, 0)) (by (with_reducible repeat (first | refine blk_drewN ?_ _ | refine blk_drew ?_ | refine blk_alloc ?_ _)); refine blk_far ?_ NB108_127.out _; (with_reducible repeat (first | refine blk_drewN ?_ _ | refine blk_drew ?_ | refine blk_alloc ?_ _)); refine blk_far ?_ NB108_127.out _; (with_reducible repeat (first | refine blk_drewN ?_ _ | refine blk_drew ?_ | refine blk_alloc ?_ _)); refine blk_far ?_ NB108_127.out _; (with_reducible repeat (first | refine blk_drewN ?_ _ | refine blk_drew ?_ | refine blk_alloc ?_ _)); refine blk_far ?_ NB108_127.out _; (with_reducible repeat (first | refine blk_drewN ?_ _ | refine blk_drew ?_ | refine blk_alloc ?_ _)); exact BK108.out)) : gb128 ≠ gb108)); have n10_ := Aside0.mk ((by rw [hg]; exact Nat.ne_of_lt (blk_lt (g := gb115) (o := .cells #[.int .i64 t111, .int .i64 t112, .int .i64 t113, .string t114] 23 (0, 0)) (by (with_reducible repeat (first | refine blk_drewN ?_ _ | refine blk_drew ?_ | refine blk_alloc ?_ _)); refine blk_far ?_ NB115_127.out _; (with_reducible repeat (first | refine blk_drewN ?_ _ | refine blk_drew ?_ | refine blk_alloc ?_ _)); refine blk_far ?_ NB115_127.out _; (with_reducible repeat (first | refine blk_drewN ?_ _ | refine blk_drew ?_ | refine blk_alloc ?_ _)); refine blk_far ?_ NB115_127.out _; (with_reducible repeat (first | refine blk_drewN ?_ _ | refine blk_drew ?_ | refine blk_alloc ?_ _)); refine blk_far ?_ NB115_127.out _; (with_reducible repeat (first | refine blk_drewN ?_ _ | refine blk_drew ?_ | refine blk_alloc ?_ _)); exact BK115.out)) : gb115 ≠ gb128)); have n11_ := Aside0.mk ((by rw [hg]; exact Nat.ne_of_gt (blk_lt (g := gb115) (o := .cells #[.int .i64 t111, .int .i64 t112, .int .i64 t113, .string t114] 23 (0, 0)) (by (with_reducible repeat (first | refine blk_drewN ?_ _ | refine blk_drew ?_ | refine blk_alloc ?_ _)); refine blk_far ?_ NB115_127.out _; (with_reducible repeat (first | refine blk_drewN ?_ _ | refine blk_drew ?_ | refine blk_alloc ?_ _)); refine blk_far ?_ NB115_127.out _; (with_reducible repeat (first | refine blk_drewN ?_ _ | refine blk_drew ?_ | refine blk_alloc ?_ _)); refine blk_far ?_ NB115_127.out _; (with_reducible repeat (first | refine blk_drewN ?_ _ | refine blk_drew ?_ | refine blk_alloc ?_ _)); refine blk_far ?_ NB115_127.out _; (with_reducible repeat (first | refine blk_drewN ?_ _ | refine blk_drew ?_ | refine blk_alloc ?_ _)); exact BK115.out)) : gb128 ≠ gb115)); have n12_ := Aside0.mk ((by rw [hg]; exact Nat.ne_of_lt (blk_lt (g := gb121) (o := .cells #[.int .i64 t116, .int .i64 t117, .int .i64 t118, .string t119] 23 (0, 0)) (by (with_reducible repeat (first | refine blk_drewN ?_ _ | refine blk_drew ?_ | refine blk_alloc ?_ _)); refine blk_far ?_ NB121_127.out _; (with_reducible repeat (first | refine blk_drewN ?_ _ | refine blk_drew ?_ | refine blk_alloc ?_ _)); refine blk_far ?_ NB121_127.out _; (with_reducible repeat (first | refine blk_drewN ?_ _ | refine blk_drew ?_ | refine blk_alloc ?_ _)); refine blk_far ?_ NB121_127.out _; (with_reducible repeat (first | refine blk_drewN ?_ _ | refine blk_drew ?_ | refine blk_alloc ?_ _)); refine blk_far ?_ NB121_127.out _; (with_reducible repeat (first | refine blk_drewN ?_ _ | refine blk_drew ?_ | refine blk_alloc ?_ _)); exact BK121.out)) : gb121 ≠ gb128)); have n13_ := Aside0.mk ((by rw [hg]; exact Nat.ne_of_gt (blk_lt (g := gb121) (o := .cells #[.int .i64 t116, .int .i64 t117, .int .i64 t118, .string t119] 23 (0, 0)) (by (with_reducible repeat (first | refine blk_drewN ?_ _ | refine blk_drew ?_ | refine blk_alloc ?_ _)); refine blk_far ?_ NB121_127.out _; (with_reducible repeat (first | refine blk_drewN ?_ _ | refine blk_drew ?_ | refine blk_alloc ?_ _)); refine blk_far ?_ NB121_127.out _; (with_reducible repeat (first | refine blk_drewN ?_ _ | refine blk_drew ?_ | refine blk_alloc ?_ _)); refine blk_far ?_ NB121_127.out _; (with_reducible repeat (first | refine blk_drewN ?_ _ | refine blk_drew ?_ | refine blk_alloc ?_ _)); refine blk_far ?_ NB121_127.out _; (with_reducible repeat (first | refine blk_drewN ?_ _ | refine blk_drew ?_ | refine blk_alloc ?_ _)); exact BK121.out)) : gb128 ≠ gb121)); have n14_ := Aside0.mk ((by rw [hg]; exact Nat.ne_of_lt (blk_lt (g := gb127) (o := .cells #[.int .i64 t122, .int .i64 t123, .int .i64 t124, .string t125] 23 (0, 0)) (by (with_reducible repeat (first | refine blk_drewN ?_ _ | refine blk_drew ?_ | refine blk_alloc ?_ _)); refine blk_put (cs := #[.int .i64 t122, .int .i64 t123, .int .i64 t124, .string (⟨#[]⟩ : ByteArray)]) ?_ 3 _ rfl; (with_reducible repeat (first | refine blk_drewN ?_ _ | refine blk_drew ?_ | refine blk_alloc ?_ _)); refine blk_put (cs := #[.int .i64 t122, .int .i64 t123, .int .i64 0, .string (⟨#[]⟩ : ByteArray)]) ?_ 2 _ rfl; (with_reducible repeat (first | refine blk_drewN ?_ _ | refine blk_drew ?_ | refine blk_alloc ?_ _)); refine blk_put (cs := #[.int .i64 t122, .int .i64 0, .int .i64 0, .string (⟨#[]⟩ : ByteArray)]) ?_ 1 _ rfl; (with_reducible repeat (first | refine blk_drewN ?_ _ | refine blk_drew ?_ | refine blk_alloc ?_ _)); refine blk_put (cs := #[.int .i64 0, .int .i64 0, .int .i64 0, .string (⟨#[]⟩ : ByteArray)]) ?_ 0 _ rfl; (with_reducible repeat (first | refine blk_drewN ?_ _ | refine blk_drew ?_ | refine blk_alloc ?_ _)); exact BK127.out)) : gb127 ≠ gb128)); have n15_ := Aside0.mk ((by rw [hg]; exact Nat.ne_of_gt (blk_lt (g := gb127) (o := .cells #[.int .i64 t122, .int .i64 t123, .int .i64 t124, .string t125] 23 (0, 0)) (by (with_reducible repeat (first | refine blk_drewN ?_ _ | refine blk_drew ?_ | refine blk_alloc ?_ _)); refine blk_put (cs := #[.int .i64 t122, .int .i64 t123, .int .i64 t124, .string (⟨#[]⟩ : ByteArray)]) ?_ 3 _ rfl; (with_reducible repeat (first | refine blk_drewN ?_ _ | refine blk_drew ?_ | refine blk_alloc ?_ _)); refine blk_put (cs := #[.int .i64 t122, .int .i64 t123, .int .i64 0, .string (⟨#[]⟩ : ByteArray)]) ?_ 2 _ rfl; (with_reducible repeat (first | refine blk_drewN ?_ _ | refine blk_drew ?_ | refine blk_alloc ?_ _)); refine blk_put (cs := #[.int .i64 t122, .int .i64 0, .int .i64 0, .string (⟨#[]⟩ : ByteArray)]) ?_ 1 _ rfl; (with_reducible repeat (first | refine blk_drewN ?_ _ | refine blk_drew ?_ | refine blk_alloc ?_ _)); refine blk_put (cs := #[.int .i64 0, .int .i64 0, .int .i64 0, .string (⟨#[]⟩ : ByteArray)]) ?_ 0 _ rfl; (with_reducible repeat (first | refine blk_drewN ?_ _ | refine blk_drew ?_ | refine blk_alloc ?_ _)); exact BK127.out)) : gb128 ≠ gb127)); clear BK108; clear BK115; clear BK121; clear BK127; clear HB; have BK108 := n0_; have BK115 := n1_; have BK121 := n2_; have BK127 := n3_; have HB := n4_; have BK128 := n5_; have GW128 := n6_; have GE128 := n7_; have NB108_128 := n8_; have NB128_108 := n9_; have NB115_128 := n10_; have NB128_115 := n11_; have NB121_128 := n12_; have NB128_121 := n13_; have NB127_128 := n14_; have NB128_127 := n15_; clear n0_ n1_ n2_ n3_ n4_ n5_ n6_ n7_ n8_ n9_ n10_ n11_ n12_ n13_ n14_ n15_; clear hb hbox hg; have hnb42 := NB128_108.out; have hnc42 := NB108_128.out; have hnb43 := NB128_115.out; have hnc43 := NB115_128.out; have hnb44 := NB128_121.out; have hnc44 := NB121_128.out; have hnb45 := NB128_127.out; have hnc45 := NB127_128.out; have hcz46_0 : w41.cell? ⟨gb128, 0, none⟩ = some (.int .i64 0) := (blk_cell BK128.out 0).trans rfl; have hcz46_1 : w41.cell? ⟨gb128, 1, none⟩ = some (.int .i64 0) := (blk_cell BK128.out 1).trans rfl; have hcz46_2 : w41.cell? ⟨gb128, 2, none⟩ = some (.int .i64 0) := (blk_cell BK128.out 2).trans rfl; have hcz46_3 : w41.cell? ⟨gb128, 3, none⟩ = some (.string (⟨#[]⟩ : ByteArray)) := (blk_cell BK128.out 3).trans rfl; have hfz46_0 := blk_frozen BK128.out 0; have hfz46_1 := blk_frozen BK128.out 1; have hfz46_2 := blk_frozen BK128.out 2; have hfz46_3 := blk_frozen BK128.out 3))
          have n0_ : Aside0 (((((w41.setCell ⟨gb128, 0, none⟩ (.int .i64 3)).setCell ⟨gb128, 1, none⟩ (.int .i64 0)).setCell ⟨gb128, 2, none⟩ (.int .i64 0)).setCell ⟨gb128, 3, none⟩ (.string (⟨#[]⟩ : ByteArray))).heap[gb108]? = some (.cells #[.int .i64 t104, .int .i64 t105, .int .i64 t106, .string t107] 23 (0, 0))) := ⟨by (with_reducible repeat (first | refine blk_drewN ?_ _ | refine blk_drew ?_ | refine blk_alloc ?_ _)); refine blk_far ?_ NB108_128.out _; (with_reducible repeat (first | refine blk_drewN ?_ _ | refine blk_drew ?_ | refine blk_alloc ?_ _)); refine blk_far ?_ NB108_128.out _; (with_reducible repeat (first | refine blk_drewN ?_ _ | refine blk_drew ?_ | refine blk_alloc ?_ _)); refine blk_far ?_ NB108_128.out _; (with_reducible repeat (first | refine blk_drewN ?_ _ | refine blk_drew ?_ | refine blk_alloc ?_ _)); refine blk_far ?_ NB108_128.out _; (with_reducible repeat (first | refine blk_drewN ?_ _ | refine blk_drew ?_ | refine blk_alloc ?_ _)); exact BK108.out⟩
          have n1_ : Aside0 (((((w41.setCell ⟨gb128, 0, none⟩ (.int .i64 3)).setCell ⟨gb128, 1, none⟩ (.int .i64 0)).setCell ⟨gb128, 2, none⟩ (.int .i64 0)).setCell ⟨gb128, 3, none⟩ (.string (⟨#[]⟩ : ByteArray))).heap[gb115]? = some (.cells #[.int .i64 t111, .int .i64 t112, .int .i64 t113, .string t114] 23 (0, 0))) := ⟨by (with_reducible repeat (first | refine blk_drewN ?_ _ | refine blk_drew ?_ | refine blk_alloc ?_ _)); refine blk_far ?_ NB115_128.out _; (with_reducible repeat (first | refine blk_drewN ?_ _ | refine blk_drew ?_ | refine blk_alloc ?_ _)); refine blk_far ?_ NB115_128.out _; (with_reducible repeat (first | refine blk_drewN ?_ _ | refine blk_drew ?_ | refine blk_alloc ?_ _)); refine blk_far ?_ NB115_128.out _; (with_reducible repeat (first | refine blk_drewN ?_ _ | refine blk_drew ?_ | refine blk_alloc ?_ _)); refine blk_far ?_ NB115_128.out _; (with_reducible repeat (first | refine blk_drewN ?_ _ | refine blk_drew ?_ | refine blk_alloc ?_ _)); exact BK115.out⟩
          have n2_ : Aside0 (((((w41.setCell ⟨gb128, 0, none⟩ (.int .i64 3)).setCell ⟨gb128, 1, none⟩ (.int .i64 0)).setCell ⟨gb128, 2, none⟩ (.int .i64 0)).setCell ⟨gb128, 3, none⟩ (.string (⟨#[]⟩ : ByteArray))).heap[gb121]? = some (.cells #[.int .i64 t116, .int .i64 t117, .int .i64 t118, .string t119] 23 (0, 0))) := ⟨by (with_reducible repeat (first | refine blk_drewN ?_ _ | refine blk_drew ?_ | refine blk_alloc ?_ _)); refine blk_far ?_ NB121_128.out _; (with_reducible repeat (first | refine blk_drewN ?_ _ | refine blk_drew ?_ | refine blk_alloc ?_ _)); refine blk_far ?_ NB121_128.out _; (with_reducible repeat (first | refine blk_drewN ?_ _ | refine blk_drew ?_ | refine blk_alloc ?_ _)); refine blk_far ?_ NB121_128.out _; (with_reducible repeat (first | refine blk_drewN ?_ _ | refine blk_drew ?_ | refine blk_alloc ?_ _)); refine blk_far ?_ NB121_128.out _; (with_reducible repeat (first | refine blk_drewN ?_ _ | refine blk_drew ?_ | refine blk_alloc ?_ _)); exact BK121.out⟩
          have n3_ : Aside0 (((((w41.setCell ⟨gb128, 0, none⟩ (.int .i64 3)).setCell ⟨gb128, 1, none⟩ (.int .i64 0)).setCell ⟨gb128, 2, none⟩ (.int .i64 0)).setCell ⟨gb128, 3, none⟩ (.string (⟨#[]⟩ : ByteArray))).heap[gb127]? = some (.cells #[.int .i64 t122, .int .i64 t123, .int .i64 t124, .string t125] 23 (0, 0))) := ⟨by (with_reducible repeat (first | refine blk_drewN ?_ _ | refine blk_drew ?_ | refine blk_alloc ?_ _)); refine blk_far ?_ NB127_128.out _; (with_reducible repeat (first | refine blk_drewN ?_ _ | refine blk_drew ?_ | refine blk_alloc ?_ _)); refine blk_far ?_ NB127_128.out _; (with_reducible repeat (first | refine blk_drewN ?_ _ | refine blk_drew ?_ | refine blk_alloc ?_ _)); refine blk_far ?_ NB127_128.out _; (with_reducible repeat (first | refine blk_drewN ?_ _ | refine blk_drew ?_ | refine blk_alloc ?_ _)); refine blk_far ?_ NB127_128.out _; (with_reducible repeat (first | refine blk_drewN ?_ _ | refine blk_drew ?_ | refine blk_alloc ?_ _)); exact BK127.out⟩
          have n4_ : Aside0 (((((w41.setCell ⟨gb128, 0, none⟩ (.int .i64 3)).setCell ⟨gb128, 1, none⟩ (.int .i64 0)).setCell ⟨gb128, 2, none⟩ (.int .i64 0)).setCell ⟨gb128, 3, none⟩ (.string (⟨#[]⟩ : ByteArray))).heap[gb128]? = some (.cells #[.int .i64 3, .int .i64 0, .int .i64 0, .string (⟨#[]⟩ : ByteArray)] 23 (0, 0))) := ⟨by (with_reducible repeat (first | refine blk_drewN ?_ _ | refine blk_drew ?_ | refine blk_alloc ?_ _)); refine blk_put (cs := #[.int .i64 3, .int .i64 0, .int .i64 0, .string (⟨#[]⟩ : ByteArray)]) ?_ 3 _ rfl; (with_reducible repeat (first | refine blk_drewN ?_ _ | refine blk_drew ?_ | refine blk_alloc ?_ _)); refine blk_put (cs := #[.int .i64 3, .int .i64 0, .int .i64 0, .string (⟨#[]⟩ : ByteArray)]) ?_ 2 _ rfl; (with_reducible repeat (first | refine blk_drewN ?_ _ | refine blk_drew ?_ | refine blk_alloc ?_ _)); refine blk_put (cs := #[.int .i64 3, .int .i64 0, .int .i64 0, .string (⟨#[]⟩ : ByteArray)]) ?_ 1 _ rfl; (with_reducible repeat (first | refine blk_drewN ?_ _ | refine blk_drew ?_ | refine blk_alloc ?_ _)); refine blk_put (cs := #[.int .i64 0, .int .i64 0, .int .i64 0, .string (⟨#[]⟩ : ByteArray)]) ?_ 0 _ rfl; (with_reducible repeat (first | refine blk_drewN ?_ _ | refine blk_drew ?_ | refine blk_alloc ?_ _)); exact BK128.out⟩
          have n5_ : Aside0 (Below w.heap.size w ((((w41.setCell ⟨gb128, 0, none⟩ (.int .i64 3)).setCell ⟨gb128, 1, none⟩ (.int .i64 0)).setCell ⟨gb128, 2, none⟩ (.int .i64 0)).setCell ⟨gb128, 3, none⟩ (.string (⟨#[]⟩ : ByteArray)))) := ⟨by repeat (first | (with_reducible first | exact HB.out | apply below_alloc | apply pw_below_drewN | apply below_drew1 | refine below_set ?_ GE108.out | refine below_set ?_ GE115.out | refine below_set ?_ GE121.out | refine below_set ?_ GE127.out | refine below_set ?_ GE128.out) | exact HB.out)⟩
          (try clear BK108)
          (try clear BK115)
          (try clear BK121)
          (try clear BK127)
          (try clear BK128)
          (try clear HB)
          generalize ((((w41.setCell ⟨gb128, 0, none⟩ (.int .i64 3)).setCell ⟨gb128, 1, none⟩ (.int .i64 0)).setCell ⟨gb128, 2, none⟩ (.int .i64 0)).setCell ⟨gb128, 3, none⟩ (.string (⟨#[]⟩ : ByteArray))) = w47 at n0_ n1_ n2_ n3_ n4_ n5_ ⊢
          have BK108 := n0_
          have BK115 := n1_
          have BK121 := n2_
          have BK127 := n3_
          have BK128 := n4_
          have HB := n5_
          clear n0_ n1_ n2_ n3_ n4_ n5_
          have n0_ := Aside0.mk (blk_drew BK108.out)
          have n1_ := Aside0.mk (blk_drew BK115.out)
          have n2_ := Aside0.mk (blk_drew BK121.out)
          have n3_ := Aside0.mk (blk_drew BK127.out)
          have n4_ := Aside0.mk (blk_drew BK128.out)
          have n5_ := Aside0.mk (below_drew1 HB.out)
          clear BK108
          clear BK115
          clear BK121
          clear BK127
          clear BK128
          clear HB
          have BK108 := n0_
          have BK115 := n1_
          have BK121 := n2_
          have BK127 := n3_
          have BK128 := n4_
          have HB := n5_
          clear n0_ n1_ n2_ n3_ n4_ n5_
          refine start_ (n := 21) (S := fun w' => w'.cell? ⟨gb127, 0, none⟩ = some (.int .i64 t122) ∧ w'.cell? ⟨gb127, 1, none⟩ = some (.int .i64 t123) ∧ w'.cell? ⟨gb127, 2, none⟩ = some (.int .i64 t124) ∧ w'.cell? ⟨gb127, 3, none⟩ = some (.string t125) ∧ w'.cell? ⟨gb128, 0, none⟩ = some (.int .i64 3) ∧ w'.cell? ⟨gb128, 1, none⟩ = some (.int .i64 0) ∧ w'.cell? ⟨gb128, 2, none⟩ = some (.int .i64 0) ∧ w'.cell? ⟨gb128, 3, none⟩ = some (.string (⟨#[]⟩ : ByteArray)) ∧ w'.cell? ⟨gb108, 0, none⟩ = some (.int .i64 t104) ∧ w'.cell? ⟨gb108, 1, none⟩ = some (.int .i64 t105) ∧ w'.cell? ⟨gb108, 2, none⟩ = some (.int .i64 t106) ∧ w'.cell? ⟨gb108, 3, none⟩ = some (.string t107) ∧ w'.cell? ⟨gb115, 0, none⟩ = some (.int .i64 t111) ∧ w'.cell? ⟨gb115, 1, none⟩ = some (.int .i64 t112) ∧ w'.cell? ⟨gb115, 2, none⟩ = some (.int .i64 t113) ∧ w'.cell? ⟨gb115, 3, none⟩ = some (.string t114) ∧ w'.cell? ⟨gb121, 0, none⟩ = some (.int .i64 t116) ∧ w'.cell? ⟨gb121, 1, none⟩ = some (.int .i64 t117) ∧ w'.cell? ⟨gb121, 2, none⟩ = some (.int .i64 t118) ∧ w'.cell? ⟨gb121, 3, none⟩ = some (.string t119)) (ds := []) #[false, false, false, false, false, false, false, false, false, false, false, false, false, false, false, false, false, false, false, false, false] (by kernel_rfl) rfl rfl ⟨(blk_cell BK127.out 0).trans rfl, (blk_cell BK127.out 1).trans rfl, (blk_cell BK127.out 2).trans rfl, (blk_cell BK127.out 3).trans rfl, (blk_cell BK128.out 0).trans rfl, (blk_cell BK128.out 1).trans rfl, (blk_cell BK128.out 2).trans rfl, (blk_cell BK128.out 3).trans rfl, (blk_cell BK108.out 0).trans rfl, (blk_cell BK108.out 1).trans rfl, (blk_cell BK108.out 2).trans rfl, (blk_cell BK108.out 3).trans rfl, (blk_cell BK115.out 0).trans rfl, (blk_cell BK115.out 1).trans rfl, (blk_cell BK115.out 2).trans rfl, (blk_cell BK115.out 3).trans rfl, (blk_cell BK121.out 0).trans rfl, (blk_cell BK121.out 1).trans rfl, (blk_cell BK121.out 2).trans rfl, (blk_cell BK121.out 3).trans rfl⟩ (fun hHeld => ?_); refine with_tabW federationlaw1_ValDecs.tab8 federationlaw1_ValDecs.bits8 (fun HT_ HW_ => ?_)
          generalize w47.drew = w48 at BK108 BK115 BK121 BK127 BK128 HB hHeld ⊢
          refine pure_ (i := 0) (N := some 45) (v := ?_) (a' := ?_) #[true, false, false, false, false, false, false, false, false, false, false, false, false, false, false, false, false, false, false, false, false] rfl rfl (any_of HT_.out (by kernel_rfl)) (fun _ _ _ h => h) (Or.inl ⟨by rfl, ?_⟩) ?_ ?_
          rotate_left
          · intro w'
            go_simp
            with_reducible rfl
          rotate_left
          · simp only [Act.put, List.setIfInBounds_toArray, List.set_cons_zero, List.set_cons_succ, i64_w, i32_w]
            rfl
          refine pure_ (i := 1) (N := some 46) (v := ?_) (a' := ?_) #[true, true, false, false, false, false, false, false, false, false, false, false, false, false, false, false, false, false, false, false, false] rfl rfl (any_of HT_.out (by kernel_rfl)) (fun _ _ _ h => h) (Or.inl ⟨by rfl, ?_⟩) ?_ ?_
          rotate_left
          · intro w'
            go_simp
            with_reducible rfl
          rotate_left
          · simp only [Act.put, List.setIfInBounds_toArray, List.set_cons_zero, List.set_cons_succ, i64_w, i32_w]
            rfl
          refine pure_ (i := 2) (N := some 47) (v := ?_) (a' := ?_) #[true, true, true, false, false, false, false, false, false, false, false, false, false, false, false, false, false, false, false, false, false] rfl rfl (any_of HT_.out (by kernel_rfl)) (fun _ _ _ h => h) (Or.inl ⟨by rfl, ?_⟩) ?_ ?_
          rotate_left
          · intro w'
            go_simp
            with_reducible rfl
          rotate_left
          · simp only [Act.put, List.setIfInBounds_toArray, List.set_cons_zero, List.set_cons_succ, i64_w, i32_w]
            rfl
          refine pure_ (i := 3) (N := some 48) (v := ?_) (a' := ?_) #[true, true, true, true, false, false, false, false, false, false, false, false, false, false, false, false, false, false, false, false, false] rfl rfl (any_of HT_.out (by kernel_rfl)) (fun _ _ _ h => h) (Or.inl ⟨by rfl, ?_⟩) ?_ ?_
          rotate_left
          · intro w'
            go_simp
            with_reducible rfl
          rotate_left
          · simp only [Act.put, List.setIfInBounds_toArray, List.set_cons_zero, List.set_cons_succ, i64_w, i32_w]
            rfl
          refine pure_ (i := 4) (N := some 49) (v := ?_) (a' := ?_) #[true, true, true, true, true, false, false, false, false, false, false, false, false, false, false, false, false, false, false, false, false] rfl rfl (any_of HT_.out (by kernel_rfl)) (fun _ _ _ h => h) (Or.inl ⟨by rfl, ?_⟩) ?_ ?_
          rotate_left
          · intro w'
            go_simp
            with_reducible rfl
          rotate_left
          · simp only [Act.put, List.setIfInBounds_toArray, List.set_cons_zero, List.set_cons_succ, i64_w, i32_w]
            rfl
          refine pure_ (i := 5) (N := some 50) (v := ?_) (a' := ?_) #[true, true, true, true, true, true, false, false, false, false, false, false, false, false, false, false, false, false, false, false, false] rfl rfl (any_of HT_.out (by kernel_rfl)) (fun _ _ _ h => h) (Or.inl ⟨by rfl, ?_⟩) ?_ ?_
          rotate_left
          · intro w'
            go_simp
            with_reducible rfl
          rotate_left
          · simp only [Act.put, List.setIfInBounds_toArray, List.set_cons_zero, List.set_cons_succ, i64_w, i32_w]
            rfl
          refine pure_ (i := 6) (N := some 51) (v := ?_) (a' := ?_) #[true, true, true, true, true, true, true, false, false, false, false, false, false, false, false, false, false, false, false, false, false] rfl rfl (any_of HT_.out (by kernel_rfl)) (fun _ _ _ h => h) (Or.inl ⟨by rfl, ?_⟩) ?_ ?_
          rotate_left
          · intro w'
            go_simp
            with_reducible rfl
          rotate_left
          · simp only [Act.put, List.setIfInBounds_toArray, List.set_cons_zero, List.set_cons_succ, i64_w, i32_w]
            rfl
          refine take_ (i := 7) (N := some 52) (v := ?_) (a' := ?_) #[true, true, true, true, true, true, true, true, false, false, false, false, false, false, false, false, false, false, false, false, false] rfl rfl (take_ofW HT_.out HW_.out (by kernel_rfl)) (fun _ _ _ h => h) (Or.inl ⟨by rfl, ?_⟩) hHeld ?_ ?_
          rotate_left
          · rintro w' ⟨s0, s1, s2, s3, s4, s5, s6, s7, s8, s9, s10, s11, s12, s13, s14, s15, s16, s17, s18, s19⟩
            go_simp
            with_reducible rfl
          rotate_left
          · simp only [Act.put, List.setIfInBounds_toArray, List.set_cons_zero, List.set_cons_succ, i64_w, i32_w]
            rfl
          refine take_ (i := 8) (N := some 53) (v := ?_) (a' := ?_) #[true, true, true, true, true, true, true, true, true, false, false, false, false, false, false, false, false, false, false, false, false] rfl rfl (take_ofW HT_.out HW_.out (by kernel_rfl)) (fun _ _ _ h => h) (Or.inl ⟨by rfl, ?_⟩) hHeld ?_ ?_
          rotate_left
          · rintro w' ⟨s0, s1, s2, s3, s4, s5, s6, s7, s8, s9, s10, s11, s12, s13, s14, s15, s16, s17, s18, s19⟩
            go_simp
            with_reducible rfl
          rotate_left
          · simp only [Act.put, List.setIfInBounds_toArray, List.set_cons_zero, List.set_cons_succ, i64_w, i32_w]
            rfl
          refine pure_ (i := 9) (N := some 54) (v := ?_) (a' := ?_) #[true, true, true, true, true, true, true, true, true, true, false, false, false, false, false, false, false, false, false, false, false] rfl rfl (any_of HT_.out (by kernel_rfl)) (fun _ _ _ h => h) (Or.inl ⟨by rfl, ?_⟩) ?_ ?_
          rotate_left
          · intro w'
            go_simp
            with_reducible rfl
          rotate_left
          · simp only [Act.put, List.setIfInBounds_toArray, List.set_cons_zero, List.set_cons_succ, i64_w, i32_w]
            rfl
          refine pure_ (i := 10) (N := some 55) (v := ?_) (a' := ?_) #[true, true, true, true, true, true, true, true, true, true, true, false, false, false, false, false, false, false, false, false, false] rfl rfl (any_of HT_.out (by kernel_rfl)) (fun _ _ _ h => h) (Or.inl ⟨by rfl, ?_⟩) ?_ ?_
          rotate_left
          · intro w'
            go_simp
            with_reducible rfl
          rotate_left
          · simp only [Act.put, List.setIfInBounds_toArray, List.set_cons_zero, List.set_cons_succ, i64_w, i32_w]
            rfl
          refine pure_ (i := 11) (N := some 56) (v := ?_) (a' := ?_) #[true, true, true, true, true, true, true, true, true, true, true, true, false, false, false, false, false, false, false, false, false] rfl rfl (any_of HT_.out (by kernel_rfl)) (fun _ _ _ h => h) (Or.inl ⟨by rfl, ?_⟩) ?_ ?_
          rotate_left
          · intro w'
            go_simp
            with_reducible rfl
          rotate_left
          · simp only [Act.put, List.setIfInBounds_toArray, List.set_cons_zero, List.set_cons_succ, i64_w, i32_w]
            rfl
          refine take_ (i := 12) (N := some 57) (v := ?_) (a' := ?_) #[true, true, true, true, true, true, true, true, true, true, true, true, true, false, false, false, false, false, false, false, false] rfl rfl (take_ofW HT_.out HW_.out (by kernel_rfl)) (fun _ _ _ h => h) (Or.inl ⟨by rfl, ?_⟩) hHeld ?_ ?_
          rotate_left
          · rintro w' ⟨s0, s1, s2, s3, s4, s5, s6, s7, s8, s9, s10, s11, s12, s13, s14, s15, s16, s17, s18, s19⟩
            go_simp
            with_reducible rfl
          rotate_left
          · simp only [Act.put, List.setIfInBounds_toArray, List.set_cons_zero, List.set_cons_succ, i64_w, i32_w]
            rfl
          refine take_ (i := 13) (N := some 58) (v := ?_) (a' := ?_) #[true, true, true, true, true, true, true, true, true, true, true, true, true, true, false, false, false, false, false, false, false] rfl rfl (take_ofW HT_.out HW_.out (by kernel_rfl)) (fun _ _ _ h => h) (Or.inl ⟨by rfl, ?_⟩) hHeld ?_ ?_
          rotate_left
          · rintro w' ⟨s0, s1, s2, s3, s4, s5, s6, s7, s8, s9, s10, s11, s12, s13, s14, s15, s16, s17, s18, s19⟩
            go_simp
            with_reducible rfl
          rotate_left
          · simp only [Act.put, List.setIfInBounds_toArray, List.set_cons_zero, List.set_cons_succ, i64_w, i32_w]
            rfl
          refine take_ (i := 15) (N := some 60) (v := ?_) (a' := ?_) #[true, true, true, true, true, true, true, true, true, true, true, true, true, true, false, true, false, false, false, false, false] rfl rfl (take_ofW HT_.out HW_.out (by kernel_rfl)) (fun _ _ _ h => h) (Or.inl ⟨by rfl, ?_⟩) hHeld ?_ ?_
          rotate_left
          · rintro w' ⟨s0, s1, s2, s3, s4, s5, s6, s7, s8, s9, s10, s11, s12, s13, s14, s15, s16, s17, s18, s19⟩
            go_simp
            with_reducible rfl
          rotate_left
          · simp only [Act.put, List.setIfInBounds_toArray, List.set_cons_zero, List.set_cons_succ, i64_w, i32_w]
            rfl
          refine take_ (i := 16) (N := some 61) (v := ?_) (a' := ?_) #[true, true, true, true, true, true, true, true, true, true, true, true, true, true, false, true, true, false, false, false, false] rfl rfl (take_ofW HT_.out HW_.out (by kernel_rfl)) (fun _ _ _ h => h) (Or.inl ⟨by rfl, ?_⟩) hHeld ?_ ?_
          rotate_left
          · rintro w' ⟨s0, s1, s2, s3, s4, s5, s6, s7, s8, s9, s10, s11, s12, s13, s14, s15, s16, s17, s18, s19⟩
            go_simp
            with_reducible rfl
          rotate_left
          · simp only [Act.put, List.setIfInBounds_toArray, List.set_cons_zero, List.set_cons_succ, i64_w, i32_w]
            rfl
          refine one_ (i := 14) (N := some 59) #[true, true, true, true, true, true, true, true, true, true, true, true, true, true, true, true, true, false, false, false, false] rfl rfl (one_of HT_.out (by kernel_rfl)) (by decide) (fun K hK => ?_)
          refine goes_ Try.func23 (by kernel_rfl) rfl #[.agg #[.int .i64 t104, .int .i64 t105, .int .i64 t106, .string t107], .agg #[.int .i64 t111, .int .i64 t112, .int .i64 t113, .string t114]] (by rfl) rfl rfl (by (try simp only [List.map_toArray, List.map_cons, List.map_nil]); first | done | rfl | (simp only [List.length_drop, List.length_take]; rfl)) ?_
          with_reducible refine (val_Order.calls k t104 t105 t106 t107 t111 t112 t113 t114 t129 _ A18.out).mono ?_
          rintro e w49 ⟨rfl, hb⟩
          refine ⟨_, rfl, ?_⟩
          have n0_ := Aside0.mk (blk_below (g := gb108) (o := .cells #[.int .i64 t104, .int .i64 t105, .int .i64 t106, .string t107] 23 (0, 0)) (by (with_reducible repeat (first | refine blk_drewN ?_ _ | refine blk_drew ?_ | refine blk_alloc ?_ _)); exact BK108.out) hb)
          have n1_ := Aside0.mk (blk_below (g := gb115) (o := .cells #[.int .i64 t111, .int .i64 t112, .int .i64 t113, .string t114] 23 (0, 0)) (by (with_reducible repeat (first | refine blk_drewN ?_ _ | refine blk_drew ?_ | refine blk_alloc ?_ _)); exact BK115.out) hb)
          have n2_ := Aside0.mk (blk_below (g := gb121) (o := .cells #[.int .i64 t116, .int .i64 t117, .int .i64 t118, .string t119] 23 (0, 0)) (by (with_reducible repeat (first | refine blk_drewN ?_ _ | refine blk_drew ?_ | refine blk_alloc ?_ _)); exact BK121.out) hb)
          have n3_ := Aside0.mk (blk_below (g := gb127) (o := .cells #[.int .i64 t122, .int .i64 t123, .int .i64 t124, .string t125] 23 (0, 0)) (by (with_reducible repeat (first | refine blk_drewN ?_ _ | refine blk_drew ?_ | refine blk_alloc ?_ _)); exact BK127.out) hb)
          have n4_ := Aside0.mk (blk_below (g := gb128) (o := .cells #[.int .i64 3, .int .i64 0, .int .i64 0, .string (⟨#[]⟩ : ByteArray)] 23 (0, 0)) (by (with_reducible repeat (first | refine blk_drewN ?_ _ | refine blk_drew ?_ | refine blk_alloc ?_ _)); exact BK128.out) hb)
          have n5_ := Aside0.mk (below_step (by repeat (first | (with_reducible first | exact HB.out | apply below_alloc | apply pw_below_drewN | apply below_drew1 | refine below_set ?_ GE108.out | refine below_set ?_ GE115.out | refine below_set ?_ GE121.out | refine below_set ?_ GE127.out | refine below_set ?_ GE128.out) | exact HB.out)) hb)
          clear BK108
          clear BK115
          clear BK121
          clear BK127
          clear BK128
          clear HB
          have BK108 := n0_
          have BK115 := n1_
          have BK121 := n2_
          have BK127 := n3_
          have BK128 := n4_
          have HB := n5_
          clear n0_ n1_ n2_ n3_ n4_ n5_
          (try clear hb)
          (try clear hb2)
          (try clear hk)
          (try clear hi)
          refine hK.out _ _ ⟨(blk_cell BK127.out 0).trans rfl, (blk_cell BK127.out 1).trans rfl, (blk_cell BK127.out 2).trans rfl, (blk_cell BK127.out 3).trans rfl, (blk_cell BK128.out 0).trans rfl, (blk_cell BK128.out 1).trans rfl, (blk_cell BK128.out 2).trans rfl, (blk_cell BK128.out 3).trans rfl, (blk_cell BK108.out 0).trans rfl, (blk_cell BK108.out 1).trans rfl, (blk_cell BK108.out 2).trans rfl, (blk_cell BK108.out 3).trans rfl, (blk_cell BK115.out 0).trans rfl, (blk_cell BK115.out 1).trans rfl, (blk_cell BK115.out 2).trans rfl, (blk_cell BK115.out 3).trans rfl, (blk_cell BK121.out 0).trans rfl, (blk_cell BK121.out 1).trans rfl, (blk_cell BK121.out 2).trans rfl, (blk_cell BK121.out 3).trans rfl⟩ (fun hHeld => ?_)
          clear hK K
          refine norm_ (a' := ?_) ?_ ?_
          rotate_left
          · show Act.put _ (some 59) _ = _
            simp only [Act.put, List.setIfInBounds_toArray, List.set_cons_zero, List.set_cons_succ, i64_w, i32_w]
            rfl
          refine one_ (i := 17) (N := some 62) #[true, true, true, true, true, true, true, true, true, true, true, true, true, true, true, true, true, true, false, false, false] rfl rfl (one_of HT_.out (by kernel_rfl)) (by decide) (fun K hK => ?_)
          refine goes_ Try.func23 (by kernel_rfl) rfl #[.agg #[.int .i64 t116, .int .i64 t117, .int .i64 t118, .string t119], .agg #[.int .i64 3, .int .i64 0, .int .i64 0, .string (⟨#[]⟩ : ByteArray)]] (by rfl) rfl rfl (by (try simp only [List.map_toArray, List.map_cons, List.map_nil]); first | done | rfl | (simp only [List.length_drop, List.length_take]; rfl)) ?_
          with_reducible refine (val_Order.calls k t116 t117 t118 t119 3 0 0 (⟨#[]⟩ : ByteArray) t130 _ A19.out).mono ?_
          rintro e w50 ⟨rfl, hb⟩
          refine ⟨_, rfl, ?_⟩
          have n0_ := Aside0.mk (blk_below (g := gb108) (o := .cells #[.int .i64 t104, .int .i64 t105, .int .i64 t106, .string t107] 23 (0, 0)) (by (with_reducible repeat (first | refine blk_drewN ?_ _ | refine blk_drew ?_ | refine blk_alloc ?_ _)); exact BK108.out) hb)
          have n1_ := Aside0.mk (blk_below (g := gb115) (o := .cells #[.int .i64 t111, .int .i64 t112, .int .i64 t113, .string t114] 23 (0, 0)) (by (with_reducible repeat (first | refine blk_drewN ?_ _ | refine blk_drew ?_ | refine blk_alloc ?_ _)); exact BK115.out) hb)
          have n2_ := Aside0.mk (blk_below (g := gb121) (o := .cells #[.int .i64 t116, .int .i64 t117, .int .i64 t118, .string t119] 23 (0, 0)) (by (with_reducible repeat (first | refine blk_drewN ?_ _ | refine blk_drew ?_ | refine blk_alloc ?_ _)); exact BK121.out) hb)
          have n3_ := Aside0.mk (blk_below (g := gb127) (o := .cells #[.int .i64 t122, .int .i64 t123, .int .i64 t124, .string t125] 23 (0, 0)) (by (with_reducible repeat (first | refine blk_drewN ?_ _ | refine blk_drew ?_ | refine blk_alloc ?_ _)); exact BK127.out) hb)
          have n4_ := Aside0.mk (blk_below (g := gb128) (o := .cells #[.int .i64 3, .int .i64 0, .int .i64 0, .string (⟨#[]⟩ : ByteArray)] 23 (0, 0)) (by (with_reducible repeat (first | refine blk_drewN ?_ _ | refine blk_drew ?_ | refine blk_alloc ?_ _)); exact BK128.out) hb)
          have n5_ := Aside0.mk (below_step (by repeat (first | (with_reducible first | exact HB.out | apply below_alloc | apply pw_below_drewN | apply below_drew1 | refine below_set ?_ GE108.out | refine below_set ?_ GE115.out | refine below_set ?_ GE121.out | refine below_set ?_ GE127.out | refine below_set ?_ GE128.out) | exact HB.out)) hb)
          clear BK108
          clear BK115
          clear BK121
          clear BK127
          clear BK128
          clear HB
          have BK108 := n0_
          have BK115 := n1_
          have BK121 := n2_
          have BK127 := n3_
          have BK128 := n4_
          have HB := n5_
          clear n0_ n1_ n2_ n3_ n4_ n5_
          (try clear hb)
          (try clear hb2)
          (try clear hk)
          (try clear hi)
          refine hK.out _ _ ⟨(blk_cell BK127.out 0).trans rfl, (blk_cell BK127.out 1).trans rfl, (blk_cell BK127.out 2).trans rfl, (blk_cell BK127.out 3).trans rfl, (blk_cell BK128.out 0).trans rfl, (blk_cell BK128.out 1).trans rfl, (blk_cell BK128.out 2).trans rfl, (blk_cell BK128.out 3).trans rfl, (blk_cell BK108.out 0).trans rfl, (blk_cell BK108.out 1).trans rfl, (blk_cell BK108.out 2).trans rfl, (blk_cell BK108.out 3).trans rfl, (blk_cell BK115.out 0).trans rfl, (blk_cell BK115.out 1).trans rfl, (blk_cell BK115.out 2).trans rfl, (blk_cell BK115.out 3).trans rfl, (blk_cell BK121.out 0).trans rfl, (blk_cell BK121.out 1).trans rfl, (blk_cell BK121.out 2).trans rfl, (blk_cell BK121.out 3).trans rfl⟩ (fun hHeld => ?_)
          clear hK K
          refine norm_ (a' := ?_) ?_ ?_
          rotate_left
          · show Act.put _ (some 62) _ = _
            simp only [Act.put, List.setIfInBounds_toArray, List.set_cons_zero, List.set_cons_succ, i64_w, i32_w]
            rfl
          refine pure_ (i := 18) (N := some 63) (v := ?_) (a' := ?_) #[true, true, true, true, true, true, true, true, true, true, true, true, true, true, true, true, true, true, true, false, false] rfl rfl (any_of HT_.out (by kernel_rfl)) (fun _ _ _ h => h) (Or.inl ⟨by rfl, ?_⟩) ?_ ?_
          rotate_left
          · intro w'
            go_simp
            with_reducible rfl
          rotate_left
          · simp only [Act.put, List.setIfInBounds_toArray, List.set_cons_zero, List.set_cons_succ, i64_w, i32_w]
            rfl
          refine pure_ (i := 19) (N := some 64) (v := ?_) (a' := ?_) #[true, true, true, true, true, true, true, true, true, true, true, true, true, true, true, true, true, true, true, true, false] rfl rfl (any_of HT_.out (by kernel_rfl)) (fun _ _ _ h => h) (Or.inl ⟨by rfl, ?_⟩) ?_ ?_
          rotate_left
          · intro w'
            go_simp
            with_reducible rfl
          rotate_left
          · simp only [Act.put, List.setIfInBounds_toArray, List.set_cons_zero, List.set_cons_succ, i64_w, i32_w]
            rfl
          refine pure_ (i := 20) (N := some 8) (v := ?_) (a' := ?_) #[true, true, true, true, true, true, true, true, true, true, true, true, true, true, true, true, true, true, true, true, true] rfl rfl (any_of HT_.out (by kernel_rfl)) (fun _ _ _ h => h) (Or.inl ⟨by rfl, ?_⟩) ?_ ?_
          rotate_left
          · intro w'
            go_simp
            with_reducible rfl
          rotate_left
          · simp only [Act.put, List.setIfInBounds_toArray, List.set_cons_zero, List.set_cons_succ, i64_w, i32_w]
            rfl
          refine done_ (done_of HT_.out (by kernel_rfl)) ?_
          try go_wp2
          go_ret
          exact ⟨by first | rfl | (simp [errW_none, errW_some] <;> rfl) | (simp [*, errW_none, errW_some] <;> rfl), by repeat (first | (with_reducible first | exact HB.out | apply below_alloc | apply pw_below_drewN | apply below_drew1 | refine below_set ?_ GE108.out | refine below_set ?_ GE115.out | refine below_set ?_ GE121.out | refine below_set ?_ GE127.out | refine below_set ?_ GE128.out) | exact HB.out)⟩
        · rw [if_neg c17] at H
          exact absurd H (by simp)
      · rw [if_neg c16] at H
        exact absurd H (by simp)
    · rw [if_neg c15] at H
      exact absurd H (by simp)
  · replace c6 := Bool.eq_false_iff.mpr c6
    subst c6
    have H1 : (none) = some r := by rw [if_neg (show ¬ (false = true) by decide)] at H; exact H
    clear H
    have H := H1
    clear H1
    exact absurd H (by simp)
def federationlaw1_ValDecs.Pure : Prop := ∀ (a0 : Int) (a1 : Int) (a2 : Int) (a3 : Int), (Lit.int .i64 a0).wf = true → (Lit.int .i64 a1).wf = true → (Lit.int .i64 a2).wf = true → (Lit.int .i64 a3).wf = true → ∃ k, federationlaw1_ValDecs.f k a0 a1 a2 a3 = some true
theorem federationlaw1_ValDecs.walk (P : federationlaw1_ValDecs.Pure) (a0 : Int) (a1 : Int) (a2 : Int) (a3 : Int) (w : World) (w0 : (Lit.int .i64 a0).wf = true) (w1 : (Lit.int .i64 a1).wf = true) (w2 : (Lit.int .i64 a2).wf = true) (w3 : (Lit.int .i64 a3).wf = true) :
    Calls Try.prog 8 #[.int .i64 a0, .int .i64 a1, .int .i64 a2, .int .i64 a3] w fun e w' => e = .returned (.bool true) ∧ Below w.heap.size w w' := by
  obtain ⟨k, h⟩ := P a0 a1 a2 a3 w0 w1 w2 w3
  refine (federationlaw1_ValDecs.calls k a0 a1 a2 a3 true w h).mono ?_
  rintro e w' ⟨rfl, hd⟩
  exact ⟨rfl, hd⟩
end Go.Proofs.Ytllkhdhanheieaa.V
namespace Go.Proofs.Ytllkhdhanheieaa.V
open Go.RowKit Go.Proofs.YtllkhdhanheieaaW.PrintWords Go.Proofs.YtllkhdhanheieaaW.PrintLast Go.Proofs.YtllkhdhanheieaaW.PrintMore
attribute [local go_sem] max2_int min2_int max_two min_two max_three min_three max_four min_four
attribute [local go_sem high] own_gtr own_leq own_geq own_cell_set Option.map_some fld23_1
set_option linter.unusedVariables false
set_option linter.unusedSimpArgs false
theorem wrap64_of {x : Int} (h0 : -9223372036854775808 ≤ x) (h1 : x ≤ 9223372036854775807) : wrap64 x = x := by
  unfold wrap64; omega
def p10 (n : Nat) : Int := (10 : Int) ^ n
theorem p10_pos (n : Nat) : 0 < p10 n := Int.pow_pos (by decide)
theorem p10_zero : p10 0 = 1 := rfl
theorem p10_succ (n : Nat) : p10 (n + 1) = p10 n * 10 := by unfold p10; rw [Int.pow_succ]
theorem p10_mono {m n : Nat} (h : m ≤ n) : p10 m ≤ p10 n := by
  induction h with
  | refl => exact Int.le_refl _
  | step _ ih => rw [p10_succ]; have := p10_pos m; omega
theorem p10_le (n : Nat) (h : n ≤ 18) : p10 n ≤ 1000000000000000000 := by
  have := p10_mono h
  have e : p10 18 = 1000000000000000000 := by decide
  omega
theorem p10_six : p10 6 = 1000000 := by decide
theorem p10_add (m n : Nat) : p10 (m + n) = p10 m * p10 n := by unfold p10; rw [Int.pow_add]
theorem val_ten_l0 : ∀ (d : Nat) (k i : Nat), d < k → i + d ≤ 18 → val_ten.l0 k (p10 i) ((i + d : Nat) : Int) (i : Int) = some (p10 (i + d))
  | 0, k, i, hk, h => by
    obtain ⟨k, rfl⟩ : ∃ m, k = m + 1 := ⟨k - 1, by omega⟩
    simp only [val_ten.l0]; rw [if_neg (by omega)]; rfl
  | d + 1, k, i, hk, h => by
    obtain ⟨k, rfl⟩ : ∃ m, k = m + 1 := ⟨k - 1, by omega⟩
    simp only [val_ten.l0]; rw [if_pos (by omega)]
    have h1 := p10_le (i + 1) (by omega)
    have h2 := p10_pos (i + 1)
    rw [← p10_succ, wrap64_of (by omega) (by omega), wrap64_of (by omega) (by omega)]
    have := val_ten_l0 d k (i + 1) (by omega) (by omega)
    rw [show i + 1 + d = i + (d + 1) by omega] at this
    exact this
theorem val_ten_eq (k n : Nat) (hk : 18 < k) (h : n ≤ 18) : val_ten.f k (n : Int) = some (p10 n) := by
  have := val_ten_l0 n k 0 (by omega) (by omega)
  rw [Nat.zero_add] at this
  exact this
def red : Int → Nat → Int × Nat
  | n, 0 => (n, 0)
  | n, s + 1 => if n % 10 = 0 then red (n / 10) s else (n, s + 1)
theorem red_zero : ∀ s, red 0 s = (0, 0)
  | 0 => rfl
  | s + 1 => by simp only [red]; rw [if_pos (by decide)]; exact red_zero s
theorem red_ten (n : Int) (s : Nat) : red (n * 10) (s + 1) = red n s := by
  simp only [red]; rw [if_pos (by omega), show n * 10 / 10 = n by omega]
theorem red_tens (n : Int) : ∀ (j s : Nat), red (n * p10 j) (s + j) = red n s
  | 0, s => by rw [p10_zero, Int.mul_one]; rfl
  | j + 1, s => by rw [p10_succ, ← Int.mul_assoc, ← Nat.add_assoc, red_ten]; exact red_tens n j s
theorem red_scale : ∀ (s : Nat) (n : Int), (red n s).2 ≤ s
  | 0, _ => Nat.le_refl _
  | s + 1, n => by
    simp only [red]
    split
    · exact Nat.le_succ_of_le (red_scale s _)
    · exact Nat.le_refl _
theorem red_value : ∀ (s : Nat) (n : Int), (red n s).1 * p10 (s - (red n s).2) = n
  | 0, n => by simp [red, p10_zero]
  | s + 1, n => by
    simp only [red]
    split
    · rename_i h
      have ih := red_value s (n / 10)
      have hs := red_scale s (n / 10)
      rw [show s + 1 - (red (n / 10) s).2 = (s - (red (n / 10) s).2) + 1 by omega, p10_succ, ← Int.mul_assoc, ih]
      omega
    · simp [p10_zero]
theorem red_done : ∀ (s : Nat) (n : Int), (red n s).2 = 0 ∨ (red n s).1 % 10 ≠ 0
  | 0, _ => Or.inl rfl
  | s + 1, n => by
    simp only [red]
    split
    · exact red_done s _
    · rename_i h; exact Or.inr h
theorem red_same (n : Int) (s : Nat) (h : s = 0 ∨ n % 10 ≠ 0) : red n s = (n, s) := by
  cases s with
  | zero => rfl
  | succ s =>
    simp only [red]
    rw [if_neg (by omega)]
theorem red_abs : ∀ (s : Nat) (n : Int), (red n s).1.natAbs ≤ n.natAbs
  | 0, _ => Nat.le_refl _
  | s + 1, n => by
    simp only [red]
    split
    · exact Nat.le_trans (red_abs s _) (by omega)
    · exact Nat.le_refl _
theorem tmod10 (n : Int) : (Int.tmod n 10 = 0) ↔ n % 10 = 0 := by
  constructor
  · intro h; have := Int.dvd_of_tmod_eq_zero h; omega
  · intro h; exact Int.tmod_eq_zero_of_dvd (by omega)
theorem tdiv10 (n : Int) (h : n % 10 = 0) : Int.tdiv n 10 = n / 10 := by
  rw [Int.tdiv_eq_ediv]; split <;> omega
theorem val_Norm_l0 (st : ByteArray) : ∀ (s k : Nat) (n : Int), s < k → s ≤ 9223372036854775807 → -9223372036854775808 ≤ n → n ≤ 9223372036854775807 → val_Norm.l0 k 3 n (s : Int) st = some (3, (red n s).1, ((red n s).2 : Int), st)
  | 0, k, n, hk, _, _, _ => by
    obtain ⟨k, rfl⟩ : ∃ m, k = m + 1 := ⟨k - 1, by omega⟩
    simp only [val_Norm.l0]; rw [if_pos trivial, if_neg (by omega)]; rfl
  | s + 1, k, n, hk, hs, h0, h1 => by
    obtain ⟨k, rfl⟩ : ∃ m, k = m + 1 := ⟨k - 1, by omega⟩
    simp only [val_Norm.l0]; rw [if_pos trivial, if_pos (by omega)]
    simp only [red]
    by_cases h : n % 10 = 0
    · rw [if_pos ((tmod10 n).2 h), if_pos h, tdiv10 n h, wrap64_of (by omega) (by omega), wrap64_of (by omega) (by omega), show ((s + 1 : Nat) : Int) - 1 = (s : Int) by omega]
      exact val_Norm_l0 st s k (n / 10) (by omega) (by omega) (by omega) (by omega)
    · rw [if_neg (fun e => h ((tmod10 n).1 e)), if_neg h]
theorem val_Norm_eq (k s : Nat) (n : Int) (st : ByteArray) (hk : s + 2 < k) (hs : s ≤ 9223372036854775807) (h0 : -9223372036854775808 ≤ n) (h1 : n ≤ 9223372036854775807) : val_Norm.f k 3 n (s : Int) st = some (3, (red n s).1, ((red n s).2 : Int), st) := by
  obtain ⟨k, rfl⟩ : ∃ m, k = m + 2 := ⟨k - 2, by omega⟩
  unfold val_Norm.f
  rw [if_pos rfl]
  simp only [val_Norm.j0, val_Norm.j1]
  by_cases h : n = 0
  · subst h
    rw [red_zero]
    simp only [beq_self_eq_true, if_true]
    rw [show mn (s : Int) 0 = ((0 : Nat) : Int) by unfold mn; split <;> omega]
    have := val_Norm_l0 st 0 k 0 (by omega) (by omega) (by omega) (by omega)
    exact this
  · rw [if_neg (by simpa using h)]
    exact val_Norm_l0 st s k n (by omega) hs h0 h1
theorem ref_Norm_l0 (st : ByteArray) : ∀ (s k : Nat) (n : Int), s < k → s ≤ 9223372036854775807 → -9223372036854775808 ≤ n → n ≤ 9223372036854775807 → federationref1_Norm.l0 k 3 n (s : Int) st = some (3, (red n s).1, ((red n s).2 : Int), st)
  | 0, k, n, hk, _, _, _ => by
    obtain ⟨k, rfl⟩ : ∃ m, k = m + 1 := ⟨k - 1, by omega⟩
    simp only [federationref1_Norm.l0]; rw [if_pos trivial, if_neg (by omega)]; rfl
  | s + 1, k, n, hk, hs, h0, h1 => by
    obtain ⟨k, rfl⟩ : ∃ m, k = m + 1 := ⟨k - 1, by omega⟩
    simp only [federationref1_Norm.l0]; rw [if_pos trivial, if_pos (by omega)]
    simp only [red]
    by_cases h : n % 10 = 0
    · rw [if_pos ((tmod10 n).2 h), if_pos h, tdiv10 n h, wrap64_of (by omega) (by omega), wrap64_of (by omega) (by omega), show ((s + 1 : Nat) : Int) - 1 = (s : Int) by omega]
      exact ref_Norm_l0 st s k (n / 10) (by omega) (by omega) (by omega) (by omega)
    · rw [if_neg (fun e => h ((tmod10 n).1 e)), if_neg h]
theorem ref_Norm_eq (k s : Nat) (n : Int) (st : ByteArray) (hk : s + 2 < k) (hs : s ≤ 9223372036854775807) (h0 : -9223372036854775808 ≤ n) (h1 : n ≤ 9223372036854775807) : federationref1_Norm.f k 3 n (s : Int) st = some (3, (red n s).1, ((red n s).2 : Int), st) := by
  obtain ⟨k, rfl⟩ : ∃ m, k = m + 2 := ⟨k - 2, by omega⟩
  unfold federationref1_Norm.f
  rw [if_pos rfl]
  simp only [federationref1_Norm.j0, federationref1_Norm.j1]
  by_cases h : n = 0
  · subst h
    rw [red_zero]
    by_cases hs0 : (s : Int) > 0
    · rw [if_pos hs0]
      simp only [beq_self_eq_true, if_true]
      exact ref_Norm_l0 st 0 k 0 (by omega) (by omega) (by omega) (by omega)
    · rw [if_neg hs0, show (s : Int) = ((0 : Nat) : Int) by omega]
      simp only [Bool.false_eq_true, if_false]
      exact ref_Norm_l0 st 0 k 0 (by omega) (by omega) (by omega) (by omega)
  · have hl := ref_Norm_l0 st s k n (by omega) hs h0 h1
    by_cases hs0 : (s : Int) > 0
    · rw [if_pos hs0, if_neg (by simpa using h)]; exact hl
    · rw [if_neg hs0]; simp only [Bool.false_eq_true, if_false]; exact hl
end Go.Proofs.Ytllkhdhanheieaa.V
namespace Go.Proofs.Ytllkhdhanheieaa.V
open Go.RowKit Go.Proofs.YtllkhdhanheieaaW.PrintWords Go.Proofs.YtllkhdhanheieaaW.PrintLast Go.Proofs.YtllkhdhanheieaaW.PrintMore
attribute [local go_sem] max2_int min2_int max_two min_two max_three min_three max_four min_four
attribute [local go_sem high] own_gtr own_leq own_geq own_cell_set Option.map_some fld23_1
set_option linter.unusedVariables false
set_option linter.unusedSimpArgs false
def cmpI (a b : Int) : Int := if a < b then -1 else if b < a then 1 else 0
def cmpT (a b : ByteArray) : Int := if Op.bytesLess a.toList b.toList = true then -1 else if Op.bytesLess b.toList a.toList = true then 1 else 0
theorem cmpB_eq : ∀ a b : List UInt8, Lib.compareBytes a b = if Op.bytesLess a b = true then -1 else if Op.bytesLess b a = true then 1 else 0
  | [], [] => rfl
  | [], _ :: _ => rfl
  | _ :: _, [] => rfl
  | x :: a, y :: b => by
    simp only [Lib.compareBytes, Op.bytesLess]
    have ih := cmpB_eq a b
    by_cases h1 : x < y
    · simp [h1]
    · by_cases h2 : y < x
      · have h3 : ¬ x = y := by rintro rfl; exact h1 h2
        simp [h1, h2, h3]
      · have h3 : x = y := by
          apply UInt8.toNat_inj.1
          rw [UInt8.lt_iff_toNat_lt] at *; omega
        subst h3
        simp [h1, ih]
theorem strings_Compare_eq (a b : ByteArray) : strings_Compare.f a b = some (cmpT a b) := by
  unfold strings_Compare.f cmpT
  rw [cmpB_eq, ByteArray.toList_eq, ByteArray.toList_eq]
def mic (n sc : Int) : Int := n * p10 (6 - sc.toNat)
def ordB (k1 n1 s1 : Int) (t1 : ByteArray) (k2 n2 s2 : Int) (t2 : ByteArray) : Int :=
  if k1 = k2 then (if k1 = 1 ∨ k1 = 2 then cmpI n1 n2 else if k1 = 3 then cmpI (mic n1 s1) (mic n2 s2) else cmpT t1 t2) else cmpI k1 k2
theorem cmp_eq (a b : Int) : cmp_Compare_int.f a b = some (cmpI a b) := by
  unfold cmp_Compare_int.f cmp_isNaN_int.f cmpI
  simp only [Option.bind_some, bne_self_eq_false, Bool.false_eq_true, if_false]
  by_cases h : a < b
  · rw [if_pos h, if_pos h]
  · rw [if_neg h, if_neg h]
    by_cases h2 : b < a
    · rw [if_pos h2, if_pos h2]
    · rw [if_neg h2, if_neg h2]
theorem cmpI_congr {a b c d : Int} (h : c < d ↔ a < b) (k : d < c ↔ b < a) : cmpI c d = cmpI a b := by
  unfold cmpI; simp only [h, k]
theorem parts_order {a b : Int} (q : Int) (hq : 0 < q) : (if cmpI (a.tdiv q) (b.tdiv q) = 0 then cmpI (a.tmod q) (b.tmod q) else cmpI (a.tdiv q) (b.tdiv q)) = cmpI a b := by
  have ha := Int.mul_tdiv_add_tmod a q
  have hb := Int.mul_tdiv_add_tmod b q
  have a1 := Int.tmod_lt_of_pos a hq
  have b1 := Int.tmod_lt_of_pos b hq
  have a2 : a.tmod q = -((-a).tmod q) := by rw [Int.neg_tmod]; omega
  have b2 : b.tmod q = -((-b).tmod q) := by rw [Int.neg_tmod]; omega
  have a3 := Int.tmod_lt_of_pos (-a) hq
  have b3 := Int.tmod_lt_of_pos (-b) hq
  have a4 : 0 ≤ a → 0 ≤ a.tmod q := fun h => Int.tmod_nonneg _ h
  have b4 : 0 ≤ b → 0 ≤ b.tmod q := fun h => Int.tmod_nonneg _ h
  have a5 : 0 ≤ -a → 0 ≤ (-a).tmod q := fun h => Int.tmod_nonneg _ h
  have b5 : 0 ≤ -b → 0 ≤ (-b).tmod q := fun h => Int.tmod_nonneg _ h
  have a6 : 0 ≤ a → 0 ≤ a.tdiv q := fun h => Int.tdiv_nonneg h (by omega)
  have b6 : 0 ≤ b → 0 ≤ b.tdiv q := fun h => Int.tdiv_nonneg h (by omega)
  have a7 : 0 ≤ -a → 0 ≤ -(a.tdiv q) := fun h => by rw [← Int.neg_tdiv]; exact Int.tdiv_nonneg h (by omega)
  have b7 : 0 ≤ -b → 0 ≤ -(b.tdiv q) := fun h => by rw [← Int.neg_tdiv]; exact Int.tdiv_nonneg h (by omega)
  generalize a.tdiv q = u at *
  generalize b.tdiv q = v at *
  generalize a.tmod q = c at *
  generalize b.tmod q = d at *
  generalize (-a).tmod q = e at *
  generalize (-b).tmod q = f at *
  rcases Int.lt_trichotomy u v with h | h | h
  · have h1 : q * u + q ≤ q * v := by
      have := Int.mul_le_mul_of_nonneg_left (show u + 1 ≤ v by omega) (show 0 ≤ q by omega)
      rw [Int.mul_add, Int.mul_one] at this; exact this
    have : cmpI u v = -1 := by unfold cmpI; rw [if_pos h]
    rw [if_neg (by rw [this]; decide), this]
    unfold cmpI
    by_cases ha0 : 0 ≤ a
    · by_cases hb0 : 0 ≤ b
      · rw [if_pos (by omega)]
      · have := b7 (by omega); have := a6 ha0; omega
    · rw [if_pos (by by_cases hb0 : 0 ≤ b <;> omega)]
  · subst h
    have : cmpI u u = 0 := by unfold cmpI; rw [if_neg (Int.lt_irrefl _), if_neg (Int.lt_irrefl _)]
    rw [if_pos this]
    clear this
    obtain ⟨m, hm⟩ : ∃ m, m = q * u := ⟨_, rfl⟩
    rw [← hm] at ha hb
    exact cmpI_congr (by omega) (by omega)
  · have h1 : q * v + q ≤ q * u := by
      have := Int.mul_le_mul_of_nonneg_left (show v + 1 ≤ u by omega) (show 0 ≤ q by omega)
      rw [Int.mul_add, Int.mul_one] at this; exact this
    have : cmpI u v = 1 := by unfold cmpI; rw [if_neg (by omega), if_pos h]
    rw [if_neg (by rw [this]; decide), this]
    unfold cmpI
    by_cases hb0 : 0 ≤ b
    · by_cases ha0 : 0 ≤ a
      · rw [if_neg (by omega), if_pos (by omega)]
      · have := a7 (by omega); have := b6 hb0; omega
    · rw [if_neg (by by_cases ha0 : 0 ≤ a <;> omega), if_pos (by by_cases ha0 : 0 ≤ a <;> omega)]
theorem or_eq (a b : Int) (k : Nat) (hk : 2 < k) : cmp_Or_int.f k [a, b] = some (if a = 0 then b else a) := by
  obtain ⟨k, rfl⟩ : ∃ m, k = m + 3 := ⟨k - 3, by omega⟩
  unfold cmp_Or_int.f
  have e0 : rd [a, b] 0 = a := rfl
  have e1 : rd [a, b] 1 = b := rfl
  simp only [List.length_cons, List.length_nil, cmp_Or_int.l0]
  rw [if_pos (by omega), if_pos (by omega), if_pos (by omega), e0, wrap64_of (by omega) (by omega)]
  by_cases h : a = 0
  · rw [if_pos h, if_pos h, if_pos (by omega), if_pos (by omega), if_pos (by omega), show (0 : Int) + 1 = 1 from rfl, e1, wrap64_of (by omega) (by omega)]
    by_cases h2 : b = 0
    · rw [if_pos h2, if_neg (by omega), h2]
    · rw [if_neg h2]
  · rw [if_neg h, if_neg h]
theorem p10_six_sub (s : Nat) (h : s ≤ 6) : p10 s * p10 (6 - s) = 1000000 := by
  rw [← p10_add, show s + (6 - s) = 6 by omega, p10_six]
theorem val_whole_eq (k : Nat) (kd n : Int) (s : Nat) (st : ByteArray) (hk : 18 < k) (hs : s ≤ 6) (h0 : -1000000000000000 < n) (h1 : n < 1000000000000000) : val_whole.f k kd n (s : Int) st = some (n.tdiv (p10 s)) := by
  unfold val_whole.f
  have e : mn (mx (s : Int) 0) 6 = (s : Int) := by unfold mn mx; split <;> split <;> omega
  rw [e, val_ten_eq k s hk (by omega)]
  simp only [Option.bind_some]
  have := p10_pos s
  rw [if_neg (by omega)]
  have h2 := Int.natAbs_tdiv_le_natAbs n (p10 s)
  rw [wrap64_of (by omega) (by omega)]
theorem tdiv_pows (s : Nat) (hs : s ≤ 6) : Int.tdiv (p10 6) (p10 s) = p10 (6 - s) := by
  have h := p10_six_sub s hs
  rw [p10_six, ← h, Int.mul_comm, Int.mul_tdiv_cancel _ (by have := p10_pos s; omega)]
theorem val_part_eq (k : Nat) (kd n : Int) (s : Nat) (st : ByteArray) (hk : 18 < k) (hs : s ≤ 6) (h0 : -1000000000000000 < n) (h1 : n < 1000000000000000) : val_part.f k kd n (s : Int) st = some (n.tmod (p10 s) * p10 (6 - s)) := by
  unfold val_part.f
  have e : mn (mx (s : Int) 0) 6 = (s : Int) := by unfold mn mx; split <;> split <;> omega
  rw [e, val_ten_eq k s hk (by omega)]
  simp only [Option.bind_some]
  have hp := p10_pos s
  rw [if_neg (by omega), show (6 : Int) = ((6 : Nat) : Int) from rfl, val_ten_eq k 6 hk (by omega)]
  simp only [Option.bind_some]
  rw [tdiv_pows s hs]
  have hq := p10_pos (6 - s)
  have hq2 := p10_le (6 - s) (by omega)
  rw [wrap64_of (x := p10 (6 - s)) (by omega) (by omega)]
  have h6 := p10_six_sub s hs
  have b1 : (n.tmod (p10 s)).natAbs ≤ n.natAbs := by rw [Int.natAbs_tmod]; exact Nat.mod_le _ _
  have b2 := Int.tmod_lt_of_pos n hp
  have b3 := Int.tmod_lt_of_pos (-n) hp
  rw [Int.neg_tmod] at b3
  have b4 : n.tmod (p10 s) * p10 (6 - s) ≤ p10 s * p10 (6 - s) := Int.mul_le_mul_of_nonneg_right (by omega) (by omega)
  have b5 : -(n.tmod (p10 s)) * p10 (6 - s) ≤ p10 s * p10 (6 - s) := Int.mul_le_mul_of_nonneg_right (by omega) (by omega)
  rw [Int.neg_mul] at b5
  rw [wrap64_of (by omega) (by omega)]
theorem mic_tdiv (n : Int) (s : Nat) (hs : s ≤ 6) : (n * p10 (6 - s)).tdiv 1000000 = n.tdiv (p10 s) := by
  rw [← p10_six_sub s hs]; exact Int.mul_tdiv_mul_of_pos_left _ _ (p10_pos _)
theorem mic_tmod (n : Int) (s : Nat) (hs : s ≤ 6) : (n * p10 (6 - s)).tmod 1000000 = n.tmod (p10 s) * p10 (6 - s) := by
  have h1 := Int.mul_tdiv_add_tmod (n * p10 (6 - s)) 1000000
  have h2 := Int.mul_tdiv_add_tmod n (p10 s)
  rw [mic_tdiv n s hs] at h1
  have h3 : (p10 s * n.tdiv (p10 s) + n.tmod (p10 s)) * p10 (6 - s) = n * p10 (6 - s) := by rw [h2]
  rw [Int.add_mul, Int.mul_assoc, Int.mul_comm (n.tdiv (p10 s)), ← Int.mul_assoc, p10_six_sub s hs] at h3
  omega
theorem val_Order_eq (k : Nat) (k1 n1 : Int) (s1 : Nat) (t1 : ByteArray) (k2 n2 : Int) (s2 : Nat) (t2 : ByteArray) (hk : 42 < k) (h1 : k1 = 3 → s1 ≤ 6 ∧ -1000000000000000 < n1 ∧ n1 < 1000000000000000) (h2 : k2 = 3 → s2 ≤ 6 ∧ -1000000000000000 < n2 ∧ n2 < 1000000000000000) :
    val_Order.f k k1 n1 (s1 : Int) t1 k2 n2 (s2 : Int) t2 = some (ordB k1 n1 (s1 : Int) t1 k2 n2 (s2 : Int) t2) := by
  obtain ⟨k, rfl⟩ : ∃ m, k = m + 1 := ⟨k - 1, by omega⟩
  unfold val_Order.f ordB
  by_cases e : k1 = k2
  · rw [if_pos e, if_pos e]
    by_cases e1 : k1 = 1
    · rw [if_pos e1, if_pos (Or.inl e1)]
      simp only [val_Order.j0, if_true, api_Value_both__val_number.f, val_number.f, val_order.f, Option.bind_some, cmp_eq]
    · rw [if_neg e1]
      simp only [val_Order.j0]
      by_cases e2 : k1 = 2
      · rw [if_pos (by simpa using e2), if_pos (Or.inr e2)]
        simp only [api_Value_both__val_number.f, val_number.f, val_order.f, Option.bind_some, cmp_eq]
      · rw [if_neg (by simpa using e2), if_neg (show ¬(k1 = 1 ∨ k1 = 2) by omega)]
        by_cases e3 : k1 = 3
        · rw [if_pos e3, if_pos e3]
          obtain ⟨a1, a2, a3⟩ := h1 e3
          obtain ⟨b1, b2, b3⟩ := h2 (by omega)
          simp only [api_Value_both__val_whole.f, api_Value_both__val_part.f, val_whole_eq k _ n1 s1 _ (by omega) a1 a2 a3, val_whole_eq k _ n2 s2 _ (by omega) b1 b2 b3, val_part_eq k _ n1 s1 _ (by omega) a1 a2 a3, val_part_eq k _ n2 s2 _ (by omega) b1 b2 b3, Option.bind_some, val_order.f, cmp_eq, or_eq _ _ k (by omega)]
          unfold mic
          have hp := parts_order (a := n1 * p10 (6 - s1)) (b := n2 * p10 (6 - s2)) 1000000 (by decide)
          rw [mic_tdiv n1 s1 a1, mic_tdiv n2 s2 b1, mic_tmod n1 s1 a1, mic_tmod n2 s2 b1] at hp
          simp only [Int.toNat_natCast]
          rw [hp]
        · rw [if_neg e3, if_neg e3, strings_Compare_eq]; rfl
  · rw [if_neg e, if_neg e, cmp_eq]; rfl
end Go.Proofs.Ytllkhdhanheieaa.V
namespace Go.Proofs.Ytllkhdhanheieaa.V
open Go.RowKit Go.Proofs.YtllkhdhanheieaaW.PrintWords Go.Proofs.YtllkhdhanheieaaW.PrintLast Go.Proofs.YtllkhdhanheieaaW.PrintMore
attribute [local go_sem] max2_int min2_int max_two min_two max_three min_three max_four min_four
attribute [local go_sem high] own_gtr own_leq own_geq own_cell_set Option.map_some fld23_1
set_option linter.unusedVariables false
set_option linter.unusedSimpArgs false
def okB (st : ByteArray) : Bool := st.data.toList.all fun b => decide (32 ≤ b.toNat ∧ b.toNat ≤ 126)
theorem bt_data (st : ByteArray) (i : Nat) (h : i < st.data.size) : bt st (i : Int) = ((st.data[i]).toNat : Int) := by
  rw [← bt_at st (i : Int) (by simpa using h)]
  rfl
theorem all_drop (st : ByteArray) (i : Nat) (h : i < st.data.size) : (st.data.toList.drop i).all (fun b => decide (32 ≤ b.toNat ∧ b.toNat ≤ 126)) = (decide (32 ≤ (st.data[i]).toNat ∧ (st.data[i]).toNat ≤ 126) && (st.data.toList.drop (i + 1)).all fun b => decide (32 ≤ b.toNat ∧ b.toNat ≤ 126)) := by
  rw [List.drop_eq_getElem_cons (by simpa using h), List.all_cons]
  simp
theorem val_printable_l0 (st : ByteArray) (hs : st.data.size ≤ 140737488351232) : ∀ (d k i : Nat), d < k → i + d = st.data.size → val_printable.l0 k st (i : Int) = some ((st.data.toList.drop i).all fun b => decide (32 ≤ b.toNat ∧ b.toNat ≤ 126))
  | 0, k, i, hk, h => by
    obtain ⟨k, rfl⟩ : ∃ m, k = m + 1 := ⟨k - 1, by omega⟩
    simp only [val_printable.l0]; rw [if_neg (by have hz : st.size = st.data.size := rfl; omega), List.drop_of_length_le (by have hz : st.data.toList.length = st.data.size := rfl; omega)]; rfl
  | d + 1, k, i, hk, h => by
    obtain ⟨k, rfl⟩ : ∃ m, k = m + 1 := ⟨k - 1, by omega⟩
    simp only [val_printable.l0]
    rw [if_pos (by have hz : st.size = st.data.size := rfl; omega), if_pos (by omega), bt_data st i (by omega), all_drop st i (by omega)]
    by_cases h1 : ((st.data[i]'(by omega)).toNat : Int) < 32
    · rw [if_pos h1, decide_eq_false (by omega)]; rfl
    · rw [if_neg h1]
      by_cases h2 : ((st.data[i]'(by omega)).toNat : Int) > 126
      · rw [if_pos h2, decide_eq_false (by omega)]; rfl
      · rw [if_neg h2, decide_eq_true (by omega), wrap64_of (by omega) (by omega), Bool.true_and]
        exact val_printable_l0 st hs d k (i + 1) (by omega) (by omega)
theorem val_printable_eq (st : ByteArray) (k : Nat) (hs : st.data.size ≤ 140737488351232) (hk : st.data.size < k) : val_printable.f k st = some (okB st) := val_printable_l0 st hs st.data.size k 0 hk (by omega)
def noS (st : ByteArray) : Bool := st.toList == ([] : List UInt8)
def rightB (kd n sc : Int) (st : ByteArray) : Bool :=
  if kd = 0 then n == 0 && (sc == 0 && noS st)
  else if kd = 1 then decide (0 ≤ n ∧ n ≤ 1) && (sc == 0 && noS st)
  else if kd = 2 then sc == 0 && noS st
  else if kd = 3 then decide (-1000000000000000 < n ∧ n < 1000000000000000 ∧ 0 ≤ sc ∧ sc ≤ 6 ∧ (sc = 0 ∨ n % 10 ≠ 0)) && noS st
  else if kd = 4 then decide (n = 0 ∧ sc = 0 ∧ st.data.size ≤ 40) && okB st
  else if kd = 5 then decide (n = 0 ∧ sc = 0 ∧ st.data.size ≤ 40)
  else false
theorem val_Right_eq (k : Nat) (kd n sc : Int) (st : ByteArray) (hk : 42 < k) : val_Right.f k kd n sc st = some (rightB kd n sc st) := by
  obtain ⟨k, rfl⟩ : ∃ m, k = m + 1 := ⟨k - 1, by omega⟩
  have hz : (st.size : Int) = (st.data.size : Int) := rfl
  unfold val_Right.f rightB
  by_cases h0 : kd = 0
  · rw [if_pos h0, if_pos h0]; rfl
  rw [if_neg h0, if_neg h0]
  by_cases h1 : kd = 1
  · rw [if_pos h1, if_pos h1]
    congr 2
    rw [Bool.eq_iff_iff]; simp only [beq_iff_eq, decide_eq_true_eq]; unfold mn mx
    constructor
    · intro h; split at h <;> (try split at h) <;> omega
    · intro h; split <;> (try split) <;> omega
  rw [if_neg h1, if_neg h1]
  by_cases h2 : kd = 2
  · rw [if_pos h2, if_pos h2]; rfl
  rw [if_neg h2, if_neg h2]
  by_cases h3 : kd = 3
  · rw [if_pos h3, if_pos h3]
    have ht := tmod10 n
    by_cases a1 : n ≤ -1000000000000000
    · rw [if_pos a1, decide_eq_false (by omega)]; rfl
    rw [if_neg a1]
    by_cases a2 : n ≥ 1000000000000000
    · rw [if_pos a2, decide_eq_false (by omega)]; rfl
    rw [if_neg a2]
    have hm : (sc == mn (mx sc 0) 6) = decide (0 ≤ sc ∧ sc ≤ 6) := by
      rw [Bool.eq_iff_iff]; simp only [beq_iff_eq, decide_eq_true_eq]; unfold mn mx
      constructor
      · intro h; split at h <;> (try split at h) <;> omega
      · intro h; split <;> (try split) <;> omega
    by_cases a3 : sc > 0
    · rw [if_pos a3]
      by_cases a4 : Int.tmod n 10 = 0
      · rw [if_pos a4, decide_eq_false (by have := ht.1 a4; omega)]; rfl
      · rw [if_neg a4, hm]
        have : n % 10 ≠ 0 := fun e => a4 (ht.2 e)
        by_cases a5 : sc ≤ 6
        · rw [decide_eq_true (by omega), decide_eq_true (by omega)]; rfl
        · rw [decide_eq_false (by omega), decide_eq_false (by omega)]; rfl
    · rw [if_neg a3, hm]
      by_cases a5 : 0 ≤ sc
      · rw [decide_eq_true (by omega), decide_eq_true (by omega)]; rfl
      · rw [decide_eq_false (by omega), decide_eq_false (by omega)]; rfl
  rw [if_neg h3, if_neg h3]
  by_cases h4 : kd = 4
  · rw [if_pos h4, if_pos h4]
    subst h4
    simp only [val_Right.j0, beq_self_eq_true, if_true, Bool.true_and]
    by_cases a1 : (st.size : Int) > 40
    · rw [if_pos a1, decide_eq_false (by omega)]; rfl
    · rw [if_neg a1, val_printable_eq st k (by omega) (by omega)]
      simp only [Option.bind_some]
      cases hb : okB st with
      | false => simp
      | true =>
        simp only [if_true, Bool.and_true]
        congr 1
        rw [Bool.eq_iff_iff]; simp only [Bool.and_eq_true, beq_iff_eq, decide_eq_true_eq]; omega
  rw [if_neg h4, if_neg h4]
  by_cases h5 : kd = 5
  · rw [if_pos h5]
    subst h5
    simp only [val_Right.j0, beq_self_eq_true, if_true, Bool.true_and]
    by_cases a1 : (st.size : Int) > 40
    · rw [if_pos a1, decide_eq_false (by omega)]
    · rw [if_neg a1, if_neg (by decide)]
      congr 1
      rw [Bool.eq_iff_iff]; simp only [Bool.and_eq_true, beq_iff_eq, decide_eq_true_eq]; omega
  · rw [if_neg h5]
    simp only [val_Right.j0, show (kd == 5) = false from by simpa using h5]
    simp
end Go.Proofs.Ytllkhdhanheieaa.V
namespace Go.Proofs.Ytllkhdhanheieaa.V
open Go.RowKit Go.Proofs.YtllkhdhanheieaaW.PrintWords Go.Proofs.YtllkhdhanheieaaW.PrintLast Go.Proofs.YtllkhdhanheieaaW.PrintMore
attribute [local go_sem] max2_int min2_int max_two min_two max_three min_three max_four min_four
attribute [local go_sem high] own_gtr own_leq own_geq own_cell_set Option.map_some fld23_1
set_option linter.unusedVariables false
set_option linter.unusedSimpArgs false
def inI (x : Int) : Bool := decide (-9223372036854775808 ≤ x ∧ x ≤ 9223372036854775807)
def I64 (x : Int) : Prop := -9223372036854775808 ≤ x ∧ x ≤ 9223372036854775807
def exactly (op a b : Int) : Int := if op = 6 then a * b else if op = 7 then a + b else a - b
theorem val_plus_eq (a b : Int) (ha : I64 a) (hb : I64 b) : val_plus.f a b = some (wrap64 (a + b), inI (a + b)) := by
  unfold val_plus.f inI I64 at *
  by_cases h : ((decide (a < 0)) != (decide (b < 0))) = true
  · rw [if_pos h]
    simp only [bne_iff_ne, ne_eq, decide_eq_decide] at h
    rw [decide_eq_true (by omega)]
  · rw [if_neg h]
    simp only [bne_iff_ne, ne_eq, decide_eq_decide] at h
    congr 2
    rw [Bool.eq_iff_iff]; simp only [beq_iff_eq, decide_eq_true_eq, decide_eq_decide]
    unfold wrap64; omega
theorem val_minus_eq (a b : Int) (ha : I64 a) (hb : I64 b) : val_minus.f a b = some (wrap64 (a - b), inI (a - b)) := by
  unfold val_minus.f inI I64 at *
  by_cases h : ((decide (a < 0)) == (decide (b < 0))) = true
  · rw [if_pos h]
    simp only [beq_iff_eq, decide_eq_decide] at h
    rw [decide_eq_true (by omega)]
  · rw [if_neg h]
    simp only [beq_iff_eq, decide_eq_decide] at h
    congr 2
    rw [Bool.eq_iff_iff]; simp only [beq_iff_eq, decide_eq_true_eq, decide_eq_decide]
    unfold wrap64; omega
theorem wrap64_inI (x : Int) (h : inI x = true) : wrap64 x = x := by
  unfold inI at h; simp only [decide_eq_true_eq] at h; exact wrap64_of h.1 h.2
theorem mul_back (a b : Int) (ha : I64 a) (hb : I64 b) (h0 : b ≠ 0) (hm : b ≠ -1) : (wrap64 (Int.tdiv (wrap64 (a * b)) b) = a) ↔ inI (a * b) = true := by
  unfold I64 at ha hb
  by_cases h1 : b = 1
  · subst h1
    rw [Int.mul_one, wrap64_of ha.1 ha.2, Int.tdiv_one, wrap64_of ha.1 ha.2]
    unfold inI
    simp only [decide_eq_true_eq]
    exact ⟨fun _ => ha, fun _ => trivial⟩
  have hcr : -9223372036854775808 ≤ wrap64 (a * b) ∧ wrap64 (a * b) ≤ 9223372036854775807 := by unfold wrap64; omega
  have hq : ∃ q : Int, wrap64 (a * b) = a * b - 18446744073709551616 * q := ⟨(a * b + 9223372036854775808) / 18446744073709551616, by unfold wrap64; omega⟩
  have hw : inI (a * b) = true → wrap64 (a * b) = a * b := wrap64_inI _
  have hd := Int.mul_tdiv_add_tmod (wrap64 (a * b)) b
  have hr1 : ((wrap64 (a * b)).tmod b).natAbs < b.natAbs := by rw [Int.natAbs_tmod]; exact Nat.mod_lt _ (by omega)
  have hn : ((wrap64 (a * b)).tdiv b).natAbs ≤ 4611686018427387904 := by
    rw [Int.natAbs_tdiv]
    have h1 : (wrap64 (a * b)).natAbs ≤ 9223372036854775808 := by omega
    exact Nat.le_trans (Nat.div_le_div_left (show 2 ≤ b.natAbs by omega) (by decide)) (by have := Nat.div_le_div_right (c := 2) h1; simpa using this)
  rw [wrap64_of (x := (wrap64 (a * b)).tdiv b) (by omega) (by omega)]
  constructor
  · intro h
    rw [h, Int.mul_comm b a] at hd
    obtain ⟨q, hq⟩ := hq
    unfold inI
    simp only [decide_eq_true_eq]
    generalize a * b = p at *
    generalize wrap64 p = c at *
    generalize c.tmod b = r at *
    omega
  · intro h
    rw [hw h]
    exact Int.mul_tdiv_cancel _ h0
theorem val_times_eq (a b : Int) (ha : I64 a) (hb : I64 b) (hm : b ≠ -1) : val_times.f a b = some (wrap64 (a * b), inI (a * b)) := by
  unfold val_times.f
  by_cases a0 : a = 0
  · rw [if_pos a0]; subst a0; rw [Int.zero_mul]; decide +kernel
  rw [if_neg a0]
  by_cases b0 : b = 0
  · rw [if_pos b0]; subst b0; rw [Int.mul_zero]; decide +kernel
  rw [if_neg b0]
  congr 2
  rw [Bool.eq_iff_iff, ← mul_back a b ha hb b0 hm, beq_iff_eq]
theorem val_two_eq (op a b : Int) (ha : I64 a) (hb : I64 b) : val_two.f op a b = some (wrap64 (exactly op a b), inI (exactly op a b)) := by
  unfold val_two.f exactly
  have h0 : I64 0 := by unfold I64; omega
  by_cases h6 : op = 6
  · rw [if_pos h6, if_pos h6]
    by_cases a1 : a = -1
    · rw [if_pos a1, val_minus_eq 0 b h0 hb]; subst a1
      rw [show (-1 : Int) * b = 0 - b by omega]; rfl
    · rw [if_neg a1]
      by_cases b1 : b = -1
      · rw [if_pos b1, val_minus_eq 0 a h0 ha]; subst b1
        rw [show a * (-1 : Int) = 0 - a by omega]; rfl
      · rw [if_neg b1, val_times_eq a b ha hb b1]; rfl
  · rw [if_neg h6, if_neg h6]
    by_cases h7 : op = 7
    · rw [if_pos h7, if_pos h7, val_plus_eq a b ha hb]; rfl
    · rw [if_neg h7, if_neg h7, val_minus_eq a b ha hb]; rfl
def intRes (op a b : Int) : Int × Int × Int × ByteArray × Int := if inI (exactly op a b) = true then (2, exactly op a b, 0, (⟨#[]⟩ : ByteArray), 0) else (0, 0, 0, (⟨#[]⟩ : ByteArray), 10)
def decRes (n : Int) (s : Nat) : Int × Int × Int × ByteArray × Int :=
  if -1000000000000000 < (red n s).1 ∧ (red n s).1 < 1000000000000000 ∧ (red n s).2 ≤ 6 then (3, (red n s).1, ((red n s).2 : Int), (⟨#[]⟩ : ByteArray), 0) else (0, 0, 0, (⟨#[]⟩ : ByteArray), 10)
theorem right_red (n : Int) (s : Nat) : rightB 3 (red n s).1 ((red n s).2 : Int) (⟨#[]⟩ : ByteArray) = decide (-1000000000000000 < (red n s).1 ∧ (red n s).1 < 1000000000000000 ∧ (red n s).2 ≤ 6) := by
  unfold rightB
  rw [if_neg (by decide), if_neg (by decide), if_neg (by decide), if_pos rfl]
  have hn : noS (⟨#[]⟩ : ByteArray) = true := by decide +kernel
  rw [hn, Bool.and_true, decide_eq_decide]
  have h := red_done s n
  generalize (red n s).1 = a at *
  generalize (red n s).2 = b at *
  omega
theorem decRes_tens (n : Int) (j s : Nat) : decRes (n * p10 j) (s + j) = decRes n s := by unfold decRes; rw [red_tens]
theorem val_end (k : Nat) (n : Int) (s : Nat) (b : Bool) (hk : s + 45 < k) (hs : s ≤ 1000) (h0 : I64 n) :
    ((val_Norm.f k 3 n (s : Int) (⟨#[]⟩ : ByteArray)).bind fun bt106 => (if b = true then ((val_Right.f k bt106.1 bt106.2.1 bt106.2.2.1 bt106.2.2.2).bind fun t111 => (some (bt106.1, bt106.2.1, bt106.2.2.1, bt106.2.2.2, t111))) else (some (bt106.1, bt106.2.1, bt106.2.2.1, bt106.2.2.2, false)))) = some (3, (red n s).1, ((red n s).2 : Int), (⟨#[]⟩ : ByteArray), b && decide (-1000000000000000 < (red n s).1 ∧ (red n s).1 < 1000000000000000 ∧ (red n s).2 ≤ 6)) := by
  rw [val_Norm_eq k s n _ (by omega) (by omega) h0.1 h0.2]
  simp only [Option.bind_some]
  cases b with
  | false => simp
  | true =>
    simp only [if_true]
    rw [val_Right_eq k _ _ _ _ (by omega), right_red]
    rfl
end Go.Proofs.Ytllkhdhanheieaa.V
