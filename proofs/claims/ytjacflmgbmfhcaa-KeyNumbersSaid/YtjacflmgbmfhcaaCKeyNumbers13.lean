-- Written by drive.py and pack.py (programs of this proof's own) through the kit's printer; not trusted: Lean checks it.
import Derived.Test.YtjacflmgbmfhcaaCKeyNumbers1
import Derived.Test.YtjacflmgbmfhcaaCKeyNumbers7
import Derived.Test.YtjacflmgbmfhcaaCKeyNumbers2
import Derived.Test.YtjacflmgbmfhcaaCKeyNumbers8
import Derived.Test.YtjacflmgbmfhcaaCKeyNumbers3
import Derived.Test.YtjacflmgbmfhcaaCKeyNumbers12
import Derived.Test.YtjacflmgbmfhcaaCKeyNumbers5
import Derived.Test.YtjacflmgbmfhcaaCKeyNumbers4
import Derived.Test.YtjacflmgbmfhcaaCKeyNumbers10
import Derived.Test.YtjacflmgbmfhcaaCKeyNumbers9
import Derived.Lib.Strings
import Derived.Test.YtjacflmgbmfhcaaCKeyNumbers11
namespace Go.Proofs.Ytjacflmgbmfhcaa.D
open Go.RowKit Go.Proofs.YtjacflmgbmfhcaaW.PrintWords Go.Proofs.YtjacflmgbmfhcaaW.PrintLast Go.Proofs.YtjacflmgbmfhcaaW.PrintMore
attribute [local go_sem] max2_int min2_int max_two min_two max_three min_three max_four min_four
attribute [local go_sem high] own_gtr own_leq own_geq own_cell_set Option.map_some
set_option linter.unusedVariables false
set_option linter.unusedSimpArgs false
def federationlaw2_KeyNumbers.f (k : Nat) (a0 : Int) (a1 : Int) (a2 : Int) : Option (Bool) := (federationlaw2_known.f k).bind fun t101 => (if t101 = true then ((federationlaw2_within.f a0 200000).bind fun t102 => ((federationlaw2_within.f a2 5).bind fun t103 => ((federationref1_Norm.f k 3 (wrap64 (t102 - 100000)) t103 (⟨#[]⟩ : ByteArray)).bind fun bt104 => ((federationlaw2_within.f a1 200000).bind fun t109 => ((federationlaw2_within.f (wrap64 (Int.tdiv a2 5)) 5).bind fun t110 => ((federationref1_Norm.f k 3 (wrap64 (t109 - 100000)) t110 (⟨#[]⟩ : ByteArray)).bind fun bt111 => ((federationref1_Reckon.f k 7 bt104.1 bt104.2.1 bt104.2.2.1 bt104.2.2.2 bt111.1 bt111.2.1 bt111.2.2.1 bt111.2.2.2).bind fun bt116 => ((federationref1_Reckon.f k 8 bt116.1 bt116.2.1 bt116.2.2.1 bt116.2.2.2.1 bt111.1 bt111.2.1 bt111.2.2.1 bt111.2.2.2).bind fun bt122 => (if bt116.2.2.2.2 = 0 then (if bt122.2.2.2.2 = 0 then ((key_Key.f k bt122.1 bt122.2.1 bt122.2.2.1 bt122.2.2.2.1).bind fun t128 => ((key_Key.f k bt104.1 bt104.2.1 bt104.2.2.1 bt104.2.2.2).bind fun t129 => (if t128.toList = t129.toList then ((key_Key.f k bt122.1 bt122.2.1 bt122.2.2.1 bt122.2.2.2.1).bind fun t130 => ((federationref2_Key.f k bt104.1 bt104.2.1 bt104.2.2.1 bt104.2.2.2).bind fun t131 => (some (t130.toList == t131.toList)))) else (none)))) else (none)) else (none)))))))))) else (none))
def federationlaw2_KeyNumbers.T7 : Bool × List (List Nat × List Nat) := (true, [([], []), ([0], [0]), ([1], [1]), ([2], [2]), ([3, 2], [2, 3]), ([2, 4], [2, 4]), ([5, 2], [5]), ([6], [6]), ([7, 6, 6], [6, 7]), ([6], [6]), ([9, 8, 6], [6, 9]), ([8, 10, 6], [6, 8, 10]), ([6, 11], [6, 11]), ([12, 10], [12]), ([13], [13]), ([14, 13, 13], [13, 14]), ([13], [13]), ([16, 15, 13], [13, 16]), ([15, 17, 13], [13, 15, 17]), ([13, 18], [13, 18]), ([19, 17, 0, 1, 2, 3, 4, 5, 6, 7, 8, 9, 10, 11, 12, 13, 14, 15, 16, 17, 18, 19], [19])])
def federationlaw2_KeyNumbers.B7 : List Nat := [0, 1, 3, 7, 15, 31, 63, 127, 255, 127, 1023, 2047, 4095, 8191, 16383, 32767, 16383, 131071, 262143, 524287, 1048575]
theorem federationlaw2_KeyNumbers.tab7 : rtab .any (opsOf Try.f11 7) = federationlaw2_KeyNumbers.T7 := by kernel_rfl
theorem federationlaw2_KeyNumbers.bits7 : waitsOk federationlaw2_KeyNumbers.T7.2 federationlaw2_KeyNumbers.B7 = true := by kernel_rfl
set_option maxHeartbeats 8000000 in
set_option maxRecDepth 100000 in
theorem federationlaw2_KeyNumbers.calls (k : Nat) (a0 : Int) (a1 : Int) (a2 : Int) (r : Bool) (w : World) (h : federationlaw2_KeyNumbers.f k a0 a1 a2 = some r) :
    Calls Try.prog 11 #[.int .i64 a0, .int .i64 a1, .int .i64 a2] w fun e w' => e = .returned (.bool r) ∧ Below w.heap.size w w' := by
  have hu24 := Try.underlying24
  have HB := Aside0.mk (Below.refl w.heap.size w)
  have H : ((federationlaw2_known.f k).bind fun t101 => (if t101 = true then ((federationlaw2_within.f a0 200000).bind fun t102 => ((federationlaw2_within.f a2 5).bind fun t103 => ((federationref1_Norm.f k 3 (wrap64 (t102 - 100000)) t103 (⟨#[]⟩ : ByteArray)).bind fun bt104 => ((federationlaw2_within.f a1 200000).bind fun t109 => ((federationlaw2_within.f (wrap64 (Int.tdiv a2 5)) 5).bind fun t110 => ((federationref1_Norm.f k 3 (wrap64 (t109 - 100000)) t110 (⟨#[]⟩ : ByteArray)).bind fun bt111 => ((federationref1_Reckon.f k 7 bt104.1 bt104.2.1 bt104.2.2.1 bt104.2.2.2 bt111.1 bt111.2.1 bt111.2.2.1 bt111.2.2.2).bind fun bt116 => ((federationref1_Reckon.f k 8 bt116.1 bt116.2.1 bt116.2.2.1 bt116.2.2.2.1 bt111.1 bt111.2.1 bt111.2.2.1 bt111.2.2.2).bind fun bt122 => (if bt116.2.2.2.2 = 0 then (if bt122.2.2.2.2 = 0 then ((key_Key.f k bt122.1 bt122.2.1 bt122.2.2.1 bt122.2.2.2.1).bind fun t128 => ((key_Key.f k bt104.1 bt104.2.1 bt104.2.2.1 bt104.2.2.2).bind fun t129 => (if t128.toList = t129.toList then ((key_Key.f k bt122.1 bt122.2.1 bt122.2.2.1 bt122.2.2.2.1).bind fun t130 => ((federationref2_Key.f k bt104.1 bt104.2.1 bt104.2.2.1 bt104.2.2.2).bind fun t131 => (some (t130.toList == t131.toList)))) else (none)))) else (none)) else (none)))))))))) else (none))) = some r := h
  clear h
  replace H := Option.bind_eq_some_iff.mp H
  obtain ⟨t101, A40, H⟩ := H
  replace H : (if t101 = true then ((federationlaw2_within.f a0 200000).bind fun t102 => ((federationlaw2_within.f a2 5).bind fun t103 => ((federationref1_Norm.f k 3 (wrap64 (t102 - 100000)) t103 (⟨#[]⟩ : ByteArray)).bind fun bt104 => ((federationlaw2_within.f a1 200000).bind fun t109 => ((federationlaw2_within.f (wrap64 (Int.tdiv a2 5)) 5).bind fun t110 => ((federationref1_Norm.f k 3 (wrap64 (t109 - 100000)) t110 (⟨#[]⟩ : ByteArray)).bind fun bt111 => ((federationref1_Reckon.f k 7 bt104.1 bt104.2.1 bt104.2.2.1 bt104.2.2.2 bt111.1 bt111.2.1 bt111.2.2.1 bt111.2.2.2).bind fun bt116 => ((federationref1_Reckon.f k 8 bt116.1 bt116.2.1 bt116.2.2.1 bt116.2.2.2.1 bt111.1 bt111.2.1 bt111.2.2.1 bt111.2.2.2).bind fun bt122 => (if bt116.2.2.2.2 = 0 then (if bt122.2.2.2.2 = 0 then ((key_Key.f k bt122.1 bt122.2.1 bt122.2.2.1 bt122.2.2.2.1).bind fun t128 => ((key_Key.f k bt104.1 bt104.2.1 bt104.2.2.1 bt104.2.2.2).bind fun t129 => (if t128.toList = t129.toList then ((key_Key.f k bt122.1 bt122.2.1 bt122.2.2.1 bt122.2.2.2.1).bind fun t130 => ((federationref2_Key.f k bt104.1 bt104.2.1 bt104.2.2.1 bt104.2.2.2).bind fun t131 => (some (t130.toList == t131.toList)))) else (none)))) else (none)) else (none)))))))))) else (none)) = some r := H
  have A4 := Aside0.mk A40
  clear A40
  by_cases c5 : t101 = true
  · subst c5
    have H1 : ((federationlaw2_within.f a0 200000).bind fun t102 => ((federationlaw2_within.f a2 5).bind fun t103 => ((federationref1_Norm.f k 3 (wrap64 (t102 - 100000)) t103 (⟨#[]⟩ : ByteArray)).bind fun bt104 => ((federationlaw2_within.f a1 200000).bind fun t109 => ((federationlaw2_within.f (wrap64 (Int.tdiv a2 5)) 5).bind fun t110 => ((federationref1_Norm.f k 3 (wrap64 (t109 - 100000)) t110 (⟨#[]⟩ : ByteArray)).bind fun bt111 => ((federationref1_Reckon.f k 7 bt104.1 bt104.2.1 bt104.2.2.1 bt104.2.2.2 bt111.1 bt111.2.1 bt111.2.2.1 bt111.2.2.2).bind fun bt116 => ((federationref1_Reckon.f k 8 bt116.1 bt116.2.1 bt116.2.2.1 bt116.2.2.2.1 bt111.1 bt111.2.1 bt111.2.2.1 bt111.2.2.2).bind fun bt122 => (if bt116.2.2.2.2 = 0 then (if bt122.2.2.2.2 = 0 then ((key_Key.f k bt122.1 bt122.2.1 bt122.2.2.1 bt122.2.2.2.1).bind fun t128 => ((key_Key.f k bt104.1 bt104.2.1 bt104.2.2.1 bt104.2.2.2).bind fun t129 => (if t128.toList = t129.toList then ((key_Key.f k bt122.1 bt122.2.1 bt122.2.2.1 bt122.2.2.2.1).bind fun t130 => ((federationref2_Key.f k bt104.1 bt104.2.1 bt104.2.2.1 bt104.2.2.2).bind fun t131 => (some (t130.toList == t131.toList)))) else (none)))) else (none)) else (none)))))))))) = some r := by rw [if_pos rfl] at H; exact H
    clear H
    have H := H1
    clear H1
    replace H := Option.bind_eq_some_iff.mp H
    obtain ⟨t102, A60, H⟩ := H
    replace H : ((federationlaw2_within.f a2 5).bind fun t103 => ((federationref1_Norm.f k 3 (wrap64 (t102 - 100000)) t103 (⟨#[]⟩ : ByteArray)).bind fun bt104 => ((federationlaw2_within.f a1 200000).bind fun t109 => ((federationlaw2_within.f (wrap64 (Int.tdiv a2 5)) 5).bind fun t110 => ((federationref1_Norm.f k 3 (wrap64 (t109 - 100000)) t110 (⟨#[]⟩ : ByteArray)).bind fun bt111 => ((federationref1_Reckon.f k 7 bt104.1 bt104.2.1 bt104.2.2.1 bt104.2.2.2 bt111.1 bt111.2.1 bt111.2.2.1 bt111.2.2.2).bind fun bt116 => ((federationref1_Reckon.f k 8 bt116.1 bt116.2.1 bt116.2.2.1 bt116.2.2.2.1 bt111.1 bt111.2.1 bt111.2.2.1 bt111.2.2.2).bind fun bt122 => (if bt116.2.2.2.2 = 0 then (if bt122.2.2.2.2 = 0 then ((key_Key.f k bt122.1 bt122.2.1 bt122.2.2.1 bt122.2.2.2.1).bind fun t128 => ((key_Key.f k bt104.1 bt104.2.1 bt104.2.2.1 bt104.2.2.2).bind fun t129 => (if t128.toList = t129.toList then ((key_Key.f k bt122.1 bt122.2.1 bt122.2.2.1 bt122.2.2.2.1).bind fun t130 => ((federationref2_Key.f k bt104.1 bt104.2.1 bt104.2.2.1 bt104.2.2.2).bind fun t131 => (some (t130.toList == t131.toList)))) else (none)))) else (none)) else (none))))))))) = some r := H
    have A6 := Aside0.mk A60
    clear A60
    replace H := Option.bind_eq_some_iff.mp H
    obtain ⟨t103, A70, H⟩ := H
    replace H : ((federationref1_Norm.f k 3 (wrap64 (t102 - 100000)) t103 (⟨#[]⟩ : ByteArray)).bind fun bt104 => ((federationlaw2_within.f a1 200000).bind fun t109 => ((federationlaw2_within.f (wrap64 (Int.tdiv a2 5)) 5).bind fun t110 => ((federationref1_Norm.f k 3 (wrap64 (t109 - 100000)) t110 (⟨#[]⟩ : ByteArray)).bind fun bt111 => ((federationref1_Reckon.f k 7 bt104.1 bt104.2.1 bt104.2.2.1 bt104.2.2.2 bt111.1 bt111.2.1 bt111.2.2.1 bt111.2.2.2).bind fun bt116 => ((federationref1_Reckon.f k 8 bt116.1 bt116.2.1 bt116.2.2.1 bt116.2.2.2.1 bt111.1 bt111.2.1 bt111.2.2.1 bt111.2.2.2).bind fun bt122 => (if bt116.2.2.2.2 = 0 then (if bt122.2.2.2.2 = 0 then ((key_Key.f k bt122.1 bt122.2.1 bt122.2.2.1 bt122.2.2.2.1).bind fun t128 => ((key_Key.f k bt104.1 bt104.2.1 bt104.2.2.1 bt104.2.2.2).bind fun t129 => (if t128.toList = t129.toList then ((key_Key.f k bt122.1 bt122.2.1 bt122.2.2.1 bt122.2.2.2.1).bind fun t130 => ((federationref2_Key.f k bt104.1 bt104.2.1 bt104.2.2.1 bt104.2.2.2).bind fun t131 => (some (t130.toList == t131.toList)))) else (none)))) else (none)) else (none)))))))) = some r := H
    have A7 := Aside0.mk A70
    clear A70
    replace H := Option.bind_eq_some_iff.mp H
    obtain ⟨⟨t104, t105, t106, t107⟩, A80, H⟩ := H
    replace H : ((federationlaw2_within.f a1 200000).bind fun t109 => ((federationlaw2_within.f (wrap64 (Int.tdiv a2 5)) 5).bind fun t110 => ((federationref1_Norm.f k 3 (wrap64 (t109 - 100000)) t110 (⟨#[]⟩ : ByteArray)).bind fun bt111 => ((federationref1_Reckon.f k 7 t104 t105 t106 t107 bt111.1 bt111.2.1 bt111.2.2.1 bt111.2.2.2).bind fun bt116 => ((federationref1_Reckon.f k 8 bt116.1 bt116.2.1 bt116.2.2.1 bt116.2.2.2.1 bt111.1 bt111.2.1 bt111.2.2.1 bt111.2.2.2).bind fun bt122 => (if bt116.2.2.2.2 = 0 then (if bt122.2.2.2.2 = 0 then ((key_Key.f k bt122.1 bt122.2.1 bt122.2.2.1 bt122.2.2.2.1).bind fun t128 => ((key_Key.f k t104 t105 t106 t107).bind fun t129 => (if t128.toList = t129.toList then ((key_Key.f k bt122.1 bt122.2.1 bt122.2.2.1 bt122.2.2.2.1).bind fun t130 => ((federationref2_Key.f k t104 t105 t106 t107).bind fun t131 => (some (t130.toList == t131.toList)))) else (none)))) else (none)) else (none))))))) = some r := H
    have A8 := Aside0.mk A80
    clear A80
    replace H := Option.bind_eq_some_iff.mp H
    obtain ⟨t109, A90, H⟩ := H
    replace H : ((federationlaw2_within.f (wrap64 (Int.tdiv a2 5)) 5).bind fun t110 => ((federationref1_Norm.f k 3 (wrap64 (t109 - 100000)) t110 (⟨#[]⟩ : ByteArray)).bind fun bt111 => ((federationref1_Reckon.f k 7 t104 t105 t106 t107 bt111.1 bt111.2.1 bt111.2.2.1 bt111.2.2.2).bind fun bt116 => ((federationref1_Reckon.f k 8 bt116.1 bt116.2.1 bt116.2.2.1 bt116.2.2.2.1 bt111.1 bt111.2.1 bt111.2.2.1 bt111.2.2.2).bind fun bt122 => (if bt116.2.2.2.2 = 0 then (if bt122.2.2.2.2 = 0 then ((key_Key.f k bt122.1 bt122.2.1 bt122.2.2.1 bt122.2.2.2.1).bind fun t128 => ((key_Key.f k t104 t105 t106 t107).bind fun t129 => (if t128.toList = t129.toList then ((key_Key.f k bt122.1 bt122.2.1 bt122.2.2.1 bt122.2.2.2.1).bind fun t130 => ((federationref2_Key.f k t104 t105 t106 t107).bind fun t131 => (some (t130.toList == t131.toList)))) else (none)))) else (none)) else (none)))))) = some r := H
    have A9 := Aside0.mk A90
    clear A90
    replace H := Option.bind_eq_some_iff.mp H
    obtain ⟨t110, A100, H⟩ := H
    replace H : ((federationref1_Norm.f k 3 (wrap64 (t109 - 100000)) t110 (⟨#[]⟩ : ByteArray)).bind fun bt111 => ((federationref1_Reckon.f k 7 t104 t105 t106 t107 bt111.1 bt111.2.1 bt111.2.2.1 bt111.2.2.2).bind fun bt116 => ((federationref1_Reckon.f k 8 bt116.1 bt116.2.1 bt116.2.2.1 bt116.2.2.2.1 bt111.1 bt111.2.1 bt111.2.2.1 bt111.2.2.2).bind fun bt122 => (if bt116.2.2.2.2 = 0 then (if bt122.2.2.2.2 = 0 then ((key_Key.f k bt122.1 bt122.2.1 bt122.2.2.1 bt122.2.2.2.1).bind fun t128 => ((key_Key.f k t104 t105 t106 t107).bind fun t129 => (if t128.toList = t129.toList then ((key_Key.f k bt122.1 bt122.2.1 bt122.2.2.1 bt122.2.2.2.1).bind fun t130 => ((federationref2_Key.f k t104 t105 t106 t107).bind fun t131 => (some (t130.toList == t131.toList)))) else (none)))) else (none)) else (none))))) = some r := H
    have A10 := Aside0.mk A100
    clear A100
    replace H := Option.bind_eq_some_iff.mp H
    obtain ⟨⟨t111, t112, t113, t114⟩, A110, H⟩ := H
    replace H : ((federationref1_Reckon.f k 7 t104 t105 t106 t107 t111 t112 t113 t114).bind fun bt116 => ((federationref1_Reckon.f k 8 bt116.1 bt116.2.1 bt116.2.2.1 bt116.2.2.2.1 t111 t112 t113 t114).bind fun bt122 => (if bt116.2.2.2.2 = 0 then (if bt122.2.2.2.2 = 0 then ((key_Key.f k bt122.1 bt122.2.1 bt122.2.2.1 bt122.2.2.2.1).bind fun t128 => ((key_Key.f k t104 t105 t106 t107).bind fun t129 => (if t128.toList = t129.toList then ((key_Key.f k bt122.1 bt122.2.1 bt122.2.2.1 bt122.2.2.2.1).bind fun t130 => ((federationref2_Key.f k t104 t105 t106 t107).bind fun t131 => (some (t130.toList == t131.toList)))) else (none)))) else (none)) else (none)))) = some r := H
    have A11 := Aside0.mk A110
    clear A110
    replace H := Option.bind_eq_some_iff.mp H
    obtain ⟨⟨t116, t117, t118, t119, t120⟩, A120, H⟩ := H
    replace H : ((federationref1_Reckon.f k 8 t116 t117 t118 t119 t111 t112 t113 t114).bind fun bt122 => (if t120 = 0 then (if bt122.2.2.2.2 = 0 then ((key_Key.f k bt122.1 bt122.2.1 bt122.2.2.1 bt122.2.2.2.1).bind fun t128 => ((key_Key.f k t104 t105 t106 t107).bind fun t129 => (if t128.toList = t129.toList then ((key_Key.f k bt122.1 bt122.2.1 bt122.2.2.1 bt122.2.2.2.1).bind fun t130 => ((federationref2_Key.f k t104 t105 t106 t107).bind fun t131 => (some (t130.toList == t131.toList)))) else (none)))) else (none)) else (none))) = some r := H
    have A12 := Aside0.mk A120
    clear A120
    replace H := Option.bind_eq_some_iff.mp H
    obtain ⟨⟨t122, t123, t124, t125, t126⟩, A130, H⟩ := H
    replace H : (if t120 = 0 then (if t126 = 0 then ((key_Key.f k t122 t123 t124 t125).bind fun t128 => ((key_Key.f k t104 t105 t106 t107).bind fun t129 => (if t128.toList = t129.toList then ((key_Key.f k t122 t123 t124 t125).bind fun t130 => ((federationref2_Key.f k t104 t105 t106 t107).bind fun t131 => (some (t130.toList == t131.toList)))) else (none)))) else (none)) else (none)) = some r := H
    have A13 := Aside0.mk A130
    clear A130
    by_cases c14 : t120 = 0
    · rw [if_pos c14] at H
      have c14b0 : (t120 == 0) = true := beq_iff_eq.mpr c14
      have c14b1 : (t120 != 0) = false := bne_eq_false_iff_eq.mpr c14
      clear c14
      by_cases c15 : t126 = 0
      · rw [if_pos c15] at H
        have c15b0 : (t126 == 0) = true := beq_iff_eq.mpr c15
        have c15b1 : (t126 != 0) = false := bne_eq_false_iff_eq.mpr c15
        clear c15
        replace H := Option.bind_eq_some_iff.mp H
        obtain ⟨t128, A160, H⟩ := H
        replace H : ((key_Key.f k t104 t105 t106 t107).bind fun t129 => (if t128.toList = t129.toList then ((key_Key.f k t122 t123 t124 t125).bind fun t130 => ((federationref2_Key.f k t104 t105 t106 t107).bind fun t131 => (some (t130.toList == t131.toList)))) else (none))) = some r := H
        have A16 := Aside0.mk A160
        clear A160
        replace H := Option.bind_eq_some_iff.mp H
        obtain ⟨t129, A170, H⟩ := H
        replace H : (if t128.toList = t129.toList then ((key_Key.f k t122 t123 t124 t125).bind fun t130 => ((federationref2_Key.f k t104 t105 t106 t107).bind fun t131 => (some (t130.toList == t131.toList)))) else (none)) = some r := H
        have A17 := Aside0.mk A170
        clear A170
        by_cases c18 : t128.toList = t129.toList
        · rw [if_pos c18] at H
          have c18b0 : (t128.toList == t129.toList) = true := beq_iff_eq.mpr c18
          have c18b1 : (t128.toList != t129.toList) = false := bne_eq_false_iff_eq.mpr c18
          clear c18
          replace H := Option.bind_eq_some_iff.mp H
          obtain ⟨t130, A190, H⟩ := H
          replace H : ((federationref2_Key.f k t104 t105 t106 t107).bind fun t131 => (some (t130.toList == t131.toList))) = some r := H
          have A19 := Aside0.mk A190
          clear A190
          replace H := Option.bind_eq_some_iff.mp H
          obtain ⟨t131, A200, H⟩ := H
          replace H : (some (t130.toList == t131.toList)) = some r := H
          have A20 := Aside0.mk A200
          clear A200
          obtain rfl := Option.some.inj H
          go_enter Try.func11, Try.ntmps11
          try go_wp2_with (first | ((with_reducible refine gate_callee (f := 12) rfl ?_); refine goesL_ (some 13) rfl rfl Try.func12 (by kernel_rfl) rfl #[] rfl (by (try simp only [List.map_toArray, List.map_cons, List.map_nil]); first | done | rfl | (simp only [List.length_drop, List.length_take]; rfl)) ?_; (with_reducible refine (federationlaw2_known.calls k  true _ A4.out).mono ?_); rintro e w21 ⟨rfl, hb⟩; refine ⟨_, rfl, ?_⟩; have n0_ := Aside0.mk (below_step (by repeat (first | (with_reducible first | exact HB.out | apply below_alloc | apply pw_below_drewN | apply below_drew1) | exact HB.out)) hb); clear HB; have HB := n0_; clear n0_; (try clear hb); (try clear hb2); (try clear hk); (try clear hi)) | ((with_reducible refine gate_callee (f := 17) rfl ?_); refine goesL_ (some 16) rfl rfl Try.func17 (by kernel_rfl) rfl #[.int .i64 a0, .int .i64 200000] rfl (by (try simp only [List.map_toArray, List.map_cons, List.map_nil]); first | done | rfl | (simp only [List.length_drop, List.length_take]; rfl)) ?_; (with_reducible refine (federationlaw2_within.calls a0 200000 t102 _ A6.out).mono ?_); rintro e w' ⟨rfl, ⟨nd, rfl⟩⟩; refine ⟨_, rfl, ?_⟩; (try (rw [drewN_self w21]; generalize hq_ : World.drewN w21 _ = w21; have n0_ : Aside0 (Below w.heap.size w w21) := ⟨by rw [← hq_]; exact (by repeat (first | (with_reducible first | exact HB.out | apply below_alloc | apply pw_below_drewN | apply below_drew1) | exact HB.out))⟩; clear HB hq_; have HB := n0_; clear n0_))) | ((with_reducible refine gate_callee (f := 17) rfl ?_); refine goesL_ (some 19) rfl rfl Try.func17 (by kernel_rfl) rfl #[.int .i64 a2, .int .i64 5] rfl (by (try simp only [List.map_toArray, List.map_cons, List.map_nil]); first | done | rfl | (simp only [List.length_drop, List.length_take]; rfl)) ?_; (with_reducible refine (federationlaw2_within.calls a2 5 t103 _ A7.out).mono ?_); rintro e w' ⟨rfl, ⟨nd, rfl⟩⟩; refine ⟨_, rfl, ?_⟩; (try (rw [drewN_self w21]; generalize hq_ : World.drewN w21 _ = w21; have n0_ : Aside0 (Below w.heap.size w w21) := ⟨by rw [← hq_]; exact (by repeat (first | (with_reducible first | exact HB.out | apply below_alloc | apply pw_below_drewN | apply below_drew1) | exact HB.out))⟩; clear HB hq_; have HB := n0_; clear n0_))) | ((with_reducible refine gate_callee (f := 24) rfl ?_); refine goesL_ (some 21) rfl rfl Try.func24 (by kernel_rfl) rfl #[.agg #[.int .i64 3, .int .i64 (wrap64 (t102 - 100000)), .int .i64 t103, .string (⟨#[]⟩ : ByteArray)]] rfl (by (try simp only [List.map_toArray, List.map_cons, List.map_nil]); first | done | rfl | (simp only [List.length_drop, List.length_take]; rfl)) ?_; (with_reducible refine (federationref1_Norm.calls k 3 (wrap64 (t102 - 100000)) t103 (⟨#[]⟩ : ByteArray) t104 t105 t106 t107 _ A8.out).mono ?_); rintro e w22 ⟨rfl, hb⟩; refine ⟨_, rfl, ?_⟩; have n0_ := Aside0.mk (below_step (by repeat (first | (with_reducible first | exact HB.out | apply below_alloc | apply pw_below_drewN | apply below_drew1) | exact HB.out)) hb); clear HB; have HB := n0_; clear n0_; (try clear hb); (try clear hb2); (try clear hk); (try clear hi)) | ((with_reducible refine gate_dst (N := 7) rfl ?_); refine box_event ?hg (N := 7) ?hd (cs := #[.int .i64 0, .int .i64 0, .int .i64 0, .string (⟨#[]⟩ : ByteArray)]) (t := 24) ?hr ?_; (case hd => rfl); (case hg => rfl); (case hr => first | (go_simp; done) | (go_simp; rfl)); intro gb108 hg w23 hbox hb; have n0_ := Aside0.mk (below_step (by repeat (first | (with_reducible first | exact HB.out | apply below_alloc | apply pw_below_drewN | apply below_drew1) | exact HB.out)) hb); have n1_ := Aside0.mk (hbox); have n2_ := Aside0.mk ((by rw [hg]; exact (below_size (by repeat (first | (with_reducible first | exact HB.out | apply below_alloc | apply pw_below_drewN | apply below_drew1) | exact HB.out))) : w.heap.size ≤ gb108)); have n3_ := Aside0.mk ((by rw [hg]; exact (below_size (by repeat (first | (with_reducible first | exact HB.out | apply below_alloc | apply pw_below_drewN | apply below_drew1) | exact HB.out))) : w.heap.size ≤ gb108)); clear HB; have HB := n0_; have BK108 := n1_; have GW108 := n2_; have GE108 := n3_; clear n0_ n1_ n2_ n3_; clear hb hbox hg; have hcz24_0 : w23.cell? ⟨gb108, 0, none⟩ = some (.int .i64 0) := (blk_cell BK108.out 0).trans rfl; have hcz24_1 : w23.cell? ⟨gb108, 1, none⟩ = some (.int .i64 0) := (blk_cell BK108.out 1).trans rfl; have hcz24_2 : w23.cell? ⟨gb108, 2, none⟩ = some (.int .i64 0) := (blk_cell BK108.out 2).trans rfl; have hcz24_3 : w23.cell? ⟨gb108, 3, none⟩ = some (.string (⟨#[]⟩ : ByteArray)) := (blk_cell BK108.out 3).trans rfl; have hfz24_0 := blk_frozen BK108.out 0; have hfz24_1 := blk_frozen BK108.out 1; have hfz24_2 := blk_frozen BK108.out 2; have hfz24_3 := blk_frozen BK108.out 3) | ((with_reducible refine gate_callee (f := 17) rfl ?_); refine goesL_ (some 23) rfl rfl Try.func17 (by kernel_rfl) rfl #[.int .i64 a1, .int .i64 200000] rfl (by (try simp only [List.map_toArray, List.map_cons, List.map_nil]); first | done | rfl | (simp only [List.length_drop, List.length_take]; rfl)) ?_; (with_reducible refine (federationlaw2_within.calls a1 200000 t109 _ A9.out).mono ?_); rintro e w' ⟨rfl, ⟨nd, rfl⟩⟩; refine ⟨_, rfl, ?_⟩) | ((with_reducible refine gate_callee (f := 17) rfl ?_); refine goesL_ (some 27) rfl rfl Try.func17 (by kernel_rfl) rfl #[.int .i64 (wrap64 (Int.tdiv a2 5)), .int .i64 5] rfl (by (try simp only [List.map_toArray, List.map_cons, List.map_nil]); first | done | rfl | (simp only [List.length_drop, List.length_take]; rfl)) ?_; (with_reducible refine (federationlaw2_within.calls (wrap64 (Int.tdiv a2 5)) 5 t110 _ A10.out).mono ?_); rintro e w' ⟨rfl, ⟨nd, rfl⟩⟩; refine ⟨_, rfl, ?_⟩) | ((with_reducible refine gate_callee (f := 24) rfl ?_); refine goesL_ (some 29) rfl rfl Try.func24 (by kernel_rfl) rfl #[.agg #[.int .i64 3, .int .i64 (wrap64 (t109 - 100000)), .int .i64 t110, .string (⟨#[]⟩ : ByteArray)]] rfl (by (try simp only [List.map_toArray, List.map_cons, List.map_nil]); first | done | rfl | (simp only [List.length_drop, List.length_take]; rfl)) ?_; (with_reducible refine (federationref1_Norm.calls k 3 (wrap64 (t109 - 100000)) t110 (⟨#[]⟩ : ByteArray) t111 t112 t113 t114 _ A11.out).mono ?_); rintro e w25 ⟨rfl, hb⟩; refine ⟨_, rfl, ?_⟩; have n0_ := Aside0.mk (blk_below (g := gb108) (o := .cells #[.int .i64 t104, .int .i64 t105, .int .i64 t106, .string t107] 24 (0, 0)) (by (with_reducible repeat (first | refine blk_drewN ?_ _ | refine blk_drew ?_ | refine blk_alloc ?_ _)); refine blk_put (cs := #[.int .i64 t104, .int .i64 t105, .int .i64 t106, .string (⟨#[]⟩ : ByteArray)]) ?_ 3 _ rfl; (with_reducible repeat (first | refine blk_drewN ?_ _ | refine blk_drew ?_ | refine blk_alloc ?_ _)); refine blk_put (cs := #[.int .i64 t104, .int .i64 t105, .int .i64 0, .string (⟨#[]⟩ : ByteArray)]) ?_ 2 _ rfl; (with_reducible repeat (first | refine blk_drewN ?_ _ | refine blk_drew ?_ | refine blk_alloc ?_ _)); refine blk_put (cs := #[.int .i64 t104, .int .i64 0, .int .i64 0, .string (⟨#[]⟩ : ByteArray)]) ?_ 1 _ rfl; (with_reducible repeat (first | refine blk_drewN ?_ _ | refine blk_drew ?_ | refine blk_alloc ?_ _)); refine blk_put (cs := #[.int .i64 0, .int .i64 0, .int .i64 0, .string (⟨#[]⟩ : ByteArray)]) ?_ 0 _ rfl; (with_reducible repeat (first | refine blk_drewN ?_ _ | refine blk_drew ?_ | refine blk_alloc ?_ _)); exact BK108.out) hb); have n1_ := Aside0.mk (below_step (by repeat (first | (with_reducible first | exact HB.out | apply below_alloc | apply pw_below_drewN | apply below_drew1 | refine below_set ?_ GE108.out) | exact HB.out)) hb); clear BK108; clear HB; have BK108 := n0_; have HB := n1_; clear n0_ n1_; (try clear hb); (try clear hb2); (try clear hk); (try clear hi)) | ((with_reducible refine gate_dst (N := 8) rfl ?_); refine box_event ?hg (N := 8) ?hd (cs := #[.int .i64 0, .int .i64 0, .int .i64 0, .string (⟨#[]⟩ : ByteArray)]) (t := 24) ?hr ?_; (case hd => rfl); (case hg => rfl); (case hr => first | (go_simp; done) | (go_simp; rfl)); intro gb115 hg w26 hbox hb; have n0_ := Aside0.mk (blk_below (g := gb108) (o := .cells #[.int .i64 t104, .int .i64 t105, .int .i64 t106, .string t107] 24 (0, 0)) (by (with_reducible repeat (first | refine blk_drewN ?_ _ | refine blk_drew ?_ | refine blk_alloc ?_ _)); exact BK108.out) hb); have n1_ := Aside0.mk (below_step (by repeat (first | (with_reducible first | exact HB.out | apply below_alloc | apply pw_below_drewN | apply below_drew1 | refine below_set ?_ GE108.out) | exact HB.out)) hb); have n2_ := Aside0.mk (hbox); have n3_ := Aside0.mk ((by rw [hg]; exact (below_size (by repeat (first | (with_reducible first | exact HB.out | apply below_alloc | apply pw_below_drewN | apply below_drew1 | refine below_set ?_ GE108.out) | exact HB.out))) : w.heap.size ≤ gb115)); have n4_ := Aside0.mk ((by rw [hg]; exact (below_size (by repeat (first | (with_reducible first | exact HB.out | apply below_alloc | apply pw_below_drewN | apply below_drew1 | refine below_set ?_ GE108.out) | exact HB.out))) : w.heap.size ≤ gb115)); have n5_ := Aside0.mk ((by rw [hg]; exact Nat.ne_of_lt (blk_lt (g := gb108) (o := .cells #[.int .i64 t104, .int .i64 t105, .int .i64 t106, .string t107] 24 (0, 0)) (by (with_reducible repeat (first | refine blk_drewN ?_ _ | refine blk_drew ?_ | refine blk_alloc ?_ _)); exact BK108.out)) : gb108 ≠ gb115)); have n6_ := Aside0.mk ((by rw [hg]; exact Nat.ne_of_gt (blk_lt (g := gb108) (o := .cells #[.int .i64 t104, .int .i64 t105, .int .i64 t106, .string t107] 24 (0, 0)) (by (with_reducible repeat (first | refine blk_drewN ?_ _ | refine blk_drew ?_ | refine blk_alloc ?_ _)); exact BK108.out)) : gb115 ≠ gb108)); clear BK108; clear HB; have BK108 := n0_; have HB := n1_; have BK115 := n2_; have GW115 := n3_; have GE115 := n4_; have NB108_115 := n5_; have NB115_108 := n6_; clear n0_ n1_ n2_ n3_ n4_ n5_ n6_; clear hb hbox hg; have hnb27 := NB115_108.out; have hnc27 := NB108_115.out; have hcz28_0 : w26.cell? ⟨gb115, 0, none⟩ = some (.int .i64 0) := (blk_cell BK115.out 0).trans rfl; have hcz28_1 : w26.cell? ⟨gb115, 1, none⟩ = some (.int .i64 0) := (blk_cell BK115.out 1).trans rfl; have hcz28_2 : w26.cell? ⟨gb115, 2, none⟩ = some (.int .i64 0) := (blk_cell BK115.out 2).trans rfl; have hcz28_3 : w26.cell? ⟨gb115, 3, none⟩ = some (.string (⟨#[]⟩ : ByteArray)) := (blk_cell BK115.out 3).trans rfl; have hfz28_0 := blk_frozen BK115.out 0; have hfz28_1 := blk_frozen BK115.out 1; have hfz28_2 := blk_frozen BK115.out 2; have hfz28_3 := blk_frozen BK115.out 3; have hcz29_0 : w26.cell? ⟨gb108, 0, none⟩ = some (.int .i64 t104) := (blk_cell BK108.out 0).trans rfl; have hcz29_1 : w26.cell? ⟨gb108, 1, none⟩ = some (.int .i64 t105) := (blk_cell BK108.out 1).trans rfl; have hcz29_2 : w26.cell? ⟨gb108, 2, none⟩ = some (.int .i64 t106) := (blk_cell BK108.out 2).trans rfl; have hcz29_3 : w26.cell? ⟨gb108, 3, none⟩ = some (.string t107) := (blk_cell BK108.out 3).trans rfl; have hfz29_0 := blk_frozen BK108.out 0; have hfz29_1 := blk_frozen BK108.out 1; have hfz29_2 := blk_frozen BK108.out 2; have hfz29_3 := blk_frozen BK108.out 3) | ((with_reducible refine gate_callee (f := 25) rfl ?_); refine goesL_ (some 33) rfl rfl Try.func25 (by kernel_rfl) rfl #[.int .i64 7, .agg #[.int .i64 t104, .int .i64 t105, .int .i64 t106, .string t107], .agg #[.int .i64 t111, .int .i64 t112, .int .i64 t113, .string t114]] rfl (by (try simp only [List.map_toArray, List.map_cons, List.map_nil]); first | done | rfl | (simp only [List.length_drop, List.length_take]; rfl)) ?_; (with_reducible refine (federationref1_Reckon.calls k 7 t104 t105 t106 t107 t111 t112 t113 t114 t116 t117 t118 t119 t120 _ A12.out).mono ?_); rintro e w30 ⟨rfl, hb⟩; refine ⟨_, rfl, ?_⟩; have n0_ := Aside0.mk (blk_below (g := gb108) (o := .cells #[.int .i64 t104, .int .i64 t105, .int .i64 t106, .string t107] 24 (0, 0)) (by (with_reducible repeat (first | refine blk_drewN ?_ _ | refine blk_drew ?_ | refine blk_alloc ?_ _)); refine blk_far ?_ NB108_115.out _; (with_reducible repeat (first | refine blk_drewN ?_ _ | refine blk_drew ?_ | refine blk_alloc ?_ _)); refine blk_far ?_ NB108_115.out _; (with_reducible repeat (first | refine blk_drewN ?_ _ | refine blk_drew ?_ | refine blk_alloc ?_ _)); refine blk_far ?_ NB108_115.out _; (with_reducible repeat (first | refine blk_drewN ?_ _ | refine blk_drew ?_ | refine blk_alloc ?_ _)); refine blk_far ?_ NB108_115.out _; (with_reducible repeat (first | refine blk_drewN ?_ _ | refine blk_drew ?_ | refine blk_alloc ?_ _)); exact BK108.out) hb); have n1_ := Aside0.mk (blk_below (g := gb115) (o := .cells #[.int .i64 t111, .int .i64 t112, .int .i64 t113, .string t114] 24 (0, 0)) (by (with_reducible repeat (first | refine blk_drewN ?_ _ | refine blk_drew ?_ | refine blk_alloc ?_ _)); refine blk_put (cs := #[.int .i64 t111, .int .i64 t112, .int .i64 t113, .string (⟨#[]⟩ : ByteArray)]) ?_ 3 _ rfl; (with_reducible repeat (first | refine blk_drewN ?_ _ | refine blk_drew ?_ | refine blk_alloc ?_ _)); refine blk_put (cs := #[.int .i64 t111, .int .i64 t112, .int .i64 0, .string (⟨#[]⟩ : ByteArray)]) ?_ 2 _ rfl; (with_reducible repeat (first | refine blk_drewN ?_ _ | refine blk_drew ?_ | refine blk_alloc ?_ _)); refine blk_put (cs := #[.int .i64 t111, .int .i64 0, .int .i64 0, .string (⟨#[]⟩ : ByteArray)]) ?_ 1 _ rfl; (with_reducible repeat (first | refine blk_drewN ?_ _ | refine blk_drew ?_ | refine blk_alloc ?_ _)); refine blk_put (cs := #[.int .i64 0, .int .i64 0, .int .i64 0, .string (⟨#[]⟩ : ByteArray)]) ?_ 0 _ rfl; (with_reducible repeat (first | refine blk_drewN ?_ _ | refine blk_drew ?_ | refine blk_alloc ?_ _)); exact BK115.out) hb); have n2_ := Aside0.mk (below_step (by repeat (first | (with_reducible first | exact HB.out | apply below_alloc | apply pw_below_drewN | apply below_drew1 | refine below_set ?_ GE108.out | refine below_set ?_ GE115.out) | exact HB.out)) hb); clear BK108; clear BK115; clear HB; have BK108 := n0_; have BK115 := n1_; have HB := n2_; clear n0_ n1_ n2_; (try clear hb); (try clear hb2); (try clear hk); (try clear hi)) | ((with_reducible refine gate_dst (N := 9) rfl ?_); refine box_event ?hg (N := 9) ?hd (cs := #[.int .i64 0, .int .i64 0, .int .i64 0, .string (⟨#[]⟩ : ByteArray)]) (t := 24) ?hr ?_; (case hd => rfl); (case hg => rfl); (case hr => first | (go_simp; done) | (go_simp; rfl)); intro gb121 hg w31 hbox hb; have n0_ := Aside0.mk (blk_below (g := gb108) (o := .cells #[.int .i64 t104, .int .i64 t105, .int .i64 t106, .string t107] 24 (0, 0)) (by (with_reducible repeat (first | refine blk_drewN ?_ _ | refine blk_drew ?_ | refine blk_alloc ?_ _)); exact BK108.out) hb); have n1_ := Aside0.mk (blk_below (g := gb115) (o := .cells #[.int .i64 t111, .int .i64 t112, .int .i64 t113, .string t114] 24 (0, 0)) (by (with_reducible repeat (first | refine blk_drewN ?_ _ | refine blk_drew ?_ | refine blk_alloc ?_ _)); exact BK115.out) hb); have n2_ := Aside0.mk (below_step (by repeat (first | (with_reducible first | exact HB.out | apply below_alloc | apply pw_below_drewN | apply below_drew1 | refine below_set ?_ GE108.out | refine below_set ?_ GE115.out) | exact HB.out)) hb); have n3_ := Aside0.mk (hbox); have n4_ := Aside0.mk ((by rw [hg]; exact (below_size (by repeat (first | (with_reducible first | exact HB.out | apply below_alloc | apply pw_below_drewN | apply below_drew1 | refine below_set ?_ GE108.out | refine below_set ?_ GE115.out) | exact HB.out))) : w.heap.size ≤ gb121)); have n5_ := Aside0.mk ((by rw [hg]; exact (below_size (by repeat (first | (with_reducible first | exact HB.out | apply below_alloc | apply pw_below_drewN | apply below_drew1 | refine below_set ?_ GE108.out | refine below_set ?_ GE115.out) | exact HB.out))) : w.heap.size ≤ gb121)); have n6_ := Aside0.mk ((by rw [hg]; exact Nat.ne_of_lt (blk_lt (g := gb108) (o := .cells #[.int .i64 t104, .int .i64 t105, .int .i64 t106, .string t107] 24 (0, 0)) (by (with_reducible repeat (first | refine blk_drewN ?_ _ | refine blk_drew ?_ | refine blk_alloc ?_ _)); exact BK108.out)) : gb108 ≠ gb121)); have n7_ := Aside0.mk ((by rw [hg]; exact Nat.ne_of_gt (blk_lt (g := gb108) (o := .cells #[.int .i64 t104, .int .i64 t105, .int .i64 t106, .string t107] 24 (0, 0)) (by (with_reducible repeat (first | refine blk_drewN ?_ _ | refine blk_drew ?_ | refine blk_alloc ?_ _)); exact BK108.out)) : gb121 ≠ gb108)); have n8_ := Aside0.mk ((by rw [hg]; exact Nat.ne_of_lt (blk_lt (g := gb115) (o := .cells #[.int .i64 t111, .int .i64 t112, .int .i64 t113, .string t114] 24 (0, 0)) (by (with_reducible repeat (first | refine blk_drewN ?_ _ | refine blk_drew ?_ | refine blk_alloc ?_ _)); exact BK115.out)) : gb115 ≠ gb121)); have n9_ := Aside0.mk ((by rw [hg]; exact Nat.ne_of_gt (blk_lt (g := gb115) (o := .cells #[.int .i64 t111, .int .i64 t112, .int .i64 t113, .string t114] 24 (0, 0)) (by (with_reducible repeat (first | refine blk_drewN ?_ _ | refine blk_drew ?_ | refine blk_alloc ?_ _)); exact BK115.out)) : gb121 ≠ gb115)); clear BK108; clear BK115; clear HB; have BK108 := n0_; have BK115 := n1_; have HB := n2_; have BK121 := n3_; have GW121 := n4_; have GE121 := n5_; have NB108_121 := n6_; have NB121_108 := n7_; have NB115_121 := n8_; have NB121_115 := n9_; clear n0_ n1_ n2_ n3_ n4_ n5_ n6_ n7_ n8_ n9_; clear hb hbox hg; have hnb32 := NB121_108.out; have hnc32 := NB108_121.out; have hnb33 := NB121_115.out; have hnc33 := NB115_121.out; have hcz34_0 : w31.cell? ⟨gb121, 0, none⟩ = some (.int .i64 0) := (blk_cell BK121.out 0).trans rfl; have hcz34_1 : w31.cell? ⟨gb121, 1, none⟩ = some (.int .i64 0) := (blk_cell BK121.out 1).trans rfl; have hcz34_2 : w31.cell? ⟨gb121, 2, none⟩ = some (.int .i64 0) := (blk_cell BK121.out 2).trans rfl; have hcz34_3 : w31.cell? ⟨gb121, 3, none⟩ = some (.string (⟨#[]⟩ : ByteArray)) := (blk_cell BK121.out 3).trans rfl; have hfz34_0 := blk_frozen BK121.out 0; have hfz34_1 := blk_frozen BK121.out 1; have hfz34_2 := blk_frozen BK121.out 2; have hfz34_3 := blk_frozen BK121.out 3; have hcz35_0 : w31.cell? ⟨gb115, 0, none⟩ = some (.int .i64 t111) := (blk_cell BK115.out 0).trans rfl; have hcz35_1 : w31.cell? ⟨gb115, 1, none⟩ = some (.int .i64 t112) := (blk_cell BK115.out 1).trans rfl; have hcz35_2 : w31.cell? ⟨gb115, 2, none⟩ = some (.int .i64 t113) := (blk_cell BK115.out 2).trans rfl; have hcz35_3 : w31.cell? ⟨gb115, 3, none⟩ = some (.string t114) := (blk_cell BK115.out 3).trans rfl; have hfz35_0 := blk_frozen BK115.out 0; have hfz35_1 := blk_frozen BK115.out 1; have hfz35_2 := blk_frozen BK115.out 2; have hfz35_3 := blk_frozen BK115.out 3) | ((with_reducible refine gate_callee (f := 25) rfl ?_); refine goesL_ (some 39) rfl rfl Try.func25 (by kernel_rfl) rfl #[.int .i64 8, .agg #[.int .i64 t116, .int .i64 t117, .int .i64 t118, .string t119], .agg #[.int .i64 t111, .int .i64 t112, .int .i64 t113, .string t114]] rfl (by (try simp only [List.map_toArray, List.map_cons, List.map_nil]); first | done | rfl | (simp only [List.length_drop, List.length_take]; rfl)) ?_; (with_reducible refine (federationref1_Reckon.calls k 8 t116 t117 t118 t119 t111 t112 t113 t114 t122 t123 t124 t125 t126 _ A13.out).mono ?_); rintro e w36 ⟨rfl, hb⟩; refine ⟨_, rfl, ?_⟩; have n0_ := Aside0.mk (blk_below (g := gb108) (o := .cells #[.int .i64 t104, .int .i64 t105, .int .i64 t106, .string t107] 24 (0, 0)) (by (with_reducible repeat (first | refine blk_drewN ?_ _ | refine blk_drew ?_ | refine blk_alloc ?_ _)); refine blk_far ?_ NB108_121.out _; (with_reducible repeat (first | refine blk_drewN ?_ _ | refine blk_drew ?_ | refine blk_alloc ?_ _)); refine blk_far ?_ NB108_121.out _; (with_reducible repeat (first | refine blk_drewN ?_ _ | refine blk_drew ?_ | refine blk_alloc ?_ _)); refine blk_far ?_ NB108_121.out _; (with_reducible repeat (first | refine blk_drewN ?_ _ | refine blk_drew ?_ | refine blk_alloc ?_ _)); refine blk_far ?_ NB108_121.out _; (with_reducible repeat (first | refine blk_drewN ?_ _ | refine blk_drew ?_ | refine blk_alloc ?_ _)); exact BK108.out) hb); have n1_ := Aside0.mk (blk_below (g := gb115) (o := .cells #[.int .i64 t111, .int .i64 t112, .int .i64 t113, .string t114] 24 (0, 0)) (by (with_reducible repeat (first | refine blk_drewN ?_ _ | refine blk_drew ?_ | refine blk_alloc ?_ _)); refine blk_far ?_ NB115_121.out _; (with_reducible repeat (first | refine blk_drewN ?_ _ | refine blk_drew ?_ | refine blk_alloc ?_ _)); refine blk_far ?_ NB115_121.out _; (with_reducible repeat (first | refine blk_drewN ?_ _ | refine blk_drew ?_ | refine blk_alloc ?_ _)); refine blk_far ?_ NB115_121.out _; (with_reducible repeat (first | refine blk_drewN ?_ _ | refine blk_drew ?_ | refine blk_alloc ?_ _)); refine blk_far ?_ NB115_121.out _; (with_reducible repeat (first | refine blk_drewN ?_ _ | refine blk_drew ?_ | refine blk_alloc ?_ _)); exact BK115.out) hb); have n2_ := Aside0.mk (blk_below (g := gb121) (o := .cells #[.int .i64 t116, .int .i64 t117, .int .i64 t118, .string t119] 24 (0, 0)) (by (with_reducible repeat (first | refine blk_drewN ?_ _ | refine blk_drew ?_ | refine blk_alloc ?_ _)); refine blk_put (cs := #[.int .i64 t116, .int .i64 t117, .int .i64 t118, .string (⟨#[]⟩ : ByteArray)]) ?_ 3 _ rfl; (with_reducible repeat (first | refine blk_drewN ?_ _ | refine blk_drew ?_ | refine blk_alloc ?_ _)); refine blk_put (cs := #[.int .i64 t116, .int .i64 t117, .int .i64 0, .string (⟨#[]⟩ : ByteArray)]) ?_ 2 _ rfl; (with_reducible repeat (first | refine blk_drewN ?_ _ | refine blk_drew ?_ | refine blk_alloc ?_ _)); refine blk_put (cs := #[.int .i64 t116, .int .i64 0, .int .i64 0, .string (⟨#[]⟩ : ByteArray)]) ?_ 1 _ rfl; (with_reducible repeat (first | refine blk_drewN ?_ _ | refine blk_drew ?_ | refine blk_alloc ?_ _)); refine blk_put (cs := #[.int .i64 0, .int .i64 0, .int .i64 0, .string (⟨#[]⟩ : ByteArray)]) ?_ 0 _ rfl; (with_reducible repeat (first | refine blk_drewN ?_ _ | refine blk_drew ?_ | refine blk_alloc ?_ _)); exact BK121.out) hb); have n3_ := Aside0.mk (below_step (by repeat (first | (with_reducible first | exact HB.out | apply below_alloc | apply pw_below_drewN | apply below_drew1 | refine below_set ?_ GE108.out | refine below_set ?_ GE115.out | refine below_set ?_ GE121.out) | exact HB.out)) hb); clear BK108; clear BK115; clear BK121; clear HB; have BK108 := n0_; have BK115 := n1_; have BK121 := n2_; have HB := n3_; clear n0_ n1_ n2_ n3_; (try clear hb); (try clear hb2); (try clear hk); (try clear hi)) | ((with_reducible refine gate_dst (N := 11) rfl ?_); refine box_event ?hg (N := 11) ?hd (cs := #[.int .i64 0, .int .i64 0, .int .i64 0, .string (⟨#[]⟩ : ByteArray)]) (t := 24) ?hr ?_; (case hd => rfl); (case hg => rfl); (case hr => first | (go_simp; done) | (go_simp; rfl)); intro gb127 hg w37 hbox hb; have n0_ := Aside0.mk (blk_below (g := gb108) (o := .cells #[.int .i64 t104, .int .i64 t105, .int .i64 t106, .string t107] 24 (0, 0)) (by (with_reducible repeat (first | refine blk_drewN ?_ _ | refine blk_drew ?_ | refine blk_alloc ?_ _)); exact BK108.out) hb); have n1_ := Aside0.mk (blk_below (g := gb115) (o := .cells #[.int .i64 t111, .int .i64 t112, .int .i64 t113, .string t114] 24 (0, 0)) (by (with_reducible repeat (first | refine blk_drewN ?_ _ | refine blk_drew ?_ | refine blk_alloc ?_ _)); exact BK115.out) hb); have n2_ := Aside0.mk (blk_below (g := gb121) (o := .cells #[.int .i64 t116, .int .i64 t117, .int .i64 t118, .string t119] 24 (0, 0)) (by (with_reducible repeat (first | refine blk_drewN ?_ _ | refine blk_drew ?_ | refine blk_alloc ?_ _)); exact BK121.out) hb); have n3_ := Aside0.mk (below_step (by repeat (first | (with_reducible first | exact HB.out | apply below_alloc | apply pw_below_drewN | apply below_drew1 | refine below_set ?_ GE108.out | refine below_set ?_ GE115.out | refine below_set ?_ GE121.out) | exact HB.out)) hb); have n4_ := Aside0.mk (hbox); have n5_ := Aside0.mk ((by rw [hg]; exact (below_size (by repeat (first | (with_reducible first | exact HB.out | apply below_alloc | apply pw_below_drewN | apply below_drew1 | refine below_set ?_ GE108.out | refine below_set ?_ GE115.out | refine below_set ?_ GE121.out) | exact HB.out))) : w.heap.size ≤ gb127)); have n6_ := Aside0.mk ((by rw [hg]; exact (below_size (by repeat (first | (with_reducible first | exact HB.out | apply below_alloc | apply pw_below_drewN | apply below_drew1 | refine below_set ?_ GE108.out | refine below_set ?_ GE115.out | refine below_set ?_ GE121.out) | exact HB.out))) : w.heap.size ≤ gb127)); have n7_ := Aside0.mk ((by rw [hg]; exact Nat.ne_of_lt (blk_lt (g := gb108) (o := .cells #[.int .i64 t104, .int .i64 t105, .int .i64 t106, .string t107] 24 (0, 0)) (by (with_reducible repeat (first | refine blk_drewN ?_ _ | refine blk_drew ?_ | refine blk_alloc ?_ _)); exact BK108.out)) : gb108 ≠ gb127)); have n8_ := Aside0.mk ((by rw [hg]; exact Nat.ne_of_gt (blk_lt (g := gb108) (o := .cells #[.int .i64 t104, .int .i64 t105, .int .i64 t106, .string t107] 24 (0, 0)) (by (with_reducible repeat (first | refine blk_drewN ?_ _ | refine blk_drew ?_ | refine blk_alloc ?_ _)); exact BK108.out)) : gb127 ≠ gb108)); have n9_ := Aside0.mk ((by rw [hg]; exact Nat.ne_of_lt (blk_lt (g := gb115) (o := .cells #[.int .i64 t111, .int .i64 t112, .int .i64 t113, .string t114] 24 (0, 0)) (by (with_reducible repeat (first | refine blk_drewN ?_ _ | refine blk_drew ?_ | refine blk_alloc ?_ _)); exact BK115.out)) : gb115 ≠ gb127)); have n10_ := Aside0.mk ((by rw [hg]; exact Nat.ne_of_gt (blk_lt (g := gb115) (o := .cells #[.int .i64 t111, .int .i64 t112, .int .i64 t113, .string t114] 24 (0, 0)) (by (with_reducible repeat (first | refine blk_drewN ?_ _ | refine blk_drew ?_ | refine blk_alloc ?_ _)); exact BK115.out)) : gb127 ≠ gb115)); have n11_ := Aside0.mk ((by rw [hg]; exact Nat.ne_of_lt (blk_lt (g := gb121) (o := .cells #[.int .i64 t116, .int .i64 t117, .int .i64 t118, .string t119] 24 (0, 0)) (by (with_reducible repeat (first | refine blk_drewN ?_ _ | refine blk_drew ?_ | refine blk_alloc ?_ _)); exact BK121.out)) : gb121 ≠ gb127)); have n12_ := Aside0.mk ((by rw [hg]; exact Nat.ne_of_gt (blk_lt (g := gb121) (o := .cells #[.int .i64 t116, .int .i64 t117, .int .i64 t118, .string t119] 24 (0, 0)) (by (with_reducible repeat (first | refine blk_drewN ?_ _ | refine blk_drew ?_ | refine blk_alloc ?_ _)); exact BK121.out)) : gb127 ≠ gb121)); clear BK108; clear BK115; clear BK121; clear HB; have BK108 := n0_; have BK115 := n1_; have BK121 := n2_; have HB := n3_; have BK127 := n4_; have GW127 := n5_; have GE127 := n6_; have NB108_127 := n7_; have NB127_108 := n8_; have NB115_127 := n9_; have NB127_115 := n10_; have NB121_127 := n11_; have NB127_121 := n12_; clear n0_ n1_ n2_ n3_ n4_ n5_ n6_ n7_ n8_ n9_ n10_ n11_ n12_; clear hb hbox hg; have hnb38 := NB127_108.out; have hnc38 := NB108_127.out; have hnb39 := NB127_115.out; have hnc39 := NB115_127.out; have hnb40 := NB127_121.out; have hnc40 := NB121_127.out; have hcz41_0 : w37.cell? ⟨gb127, 0, none⟩ = some (.int .i64 0) := (blk_cell BK127.out 0).trans rfl; have hcz41_1 : w37.cell? ⟨gb127, 1, none⟩ = some (.int .i64 0) := (blk_cell BK127.out 1).trans rfl; have hcz41_2 : w37.cell? ⟨gb127, 2, none⟩ = some (.int .i64 0) := (blk_cell BK127.out 2).trans rfl; have hcz41_3 : w37.cell? ⟨gb127, 3, none⟩ = some (.string (⟨#[]⟩ : ByteArray)) := (blk_cell BK127.out 3).trans rfl; have hfz41_0 := blk_frozen BK127.out 0; have hfz41_1 := blk_frozen BK127.out 1; have hfz41_2 := blk_frozen BK127.out 2; have hfz41_3 := blk_frozen BK127.out 3))
          have n0_ : Aside0 (((((w37.setCell ⟨gb127, 0, none⟩ (.int .i64 t122)).setCell ⟨gb127, 1, none⟩ (.int .i64 t123)).setCell ⟨gb127, 2, none⟩ (.int .i64 t124)).setCell ⟨gb127, 3, none⟩ (.string t125)).heap[gb108]? = some (.cells #[.int .i64 t104, .int .i64 t105, .int .i64 t106, .string t107] 24 (0, 0))) := ⟨by (with_reducible repeat (first | refine blk_drewN ?_ _ | refine blk_drew ?_ | refine blk_alloc ?_ _)); refine blk_far ?_ NB108_127.out _; (with_reducible repeat (first | refine blk_drewN ?_ _ | refine blk_drew ?_ | refine blk_alloc ?_ _)); refine blk_far ?_ NB108_127.out _; (with_reducible repeat (first | refine blk_drewN ?_ _ | refine blk_drew ?_ | refine blk_alloc ?_ _)); refine blk_far ?_ NB108_127.out _; (with_reducible repeat (first | refine blk_drewN ?_ _ | refine blk_drew ?_ | refine blk_alloc ?_ _)); refine blk_far ?_ NB108_127.out _; (with_reducible repeat (first | refine blk_drewN ?_ _ | refine blk_drew ?_ | refine blk_alloc ?_ _)); exact BK108.out⟩
          have n1_ : Aside0 (((((w37.setCell ⟨gb127, 0, none⟩ (.int .i64 t122)).setCell ⟨gb127, 1, none⟩ (.int .i64 t123)).setCell ⟨gb127, 2, none⟩ (.int .i64 t124)).setCell ⟨gb127, 3, none⟩ (.string t125)).heap[gb115]? = some (.cells #[.int .i64 t111, .int .i64 t112, .int .i64 t113, .string t114] 24 (0, 0))) := ⟨by (with_reducible repeat (first | refine blk_drewN ?_ _ | refine blk_drew ?_ | refine blk_alloc ?_ _)); refine blk_far ?_ NB115_127.out _; (with_reducible repeat (first | refine blk_drewN ?_ _ | refine blk_drew ?_ | refine blk_alloc ?_ _)); refine blk_far ?_ NB115_127.out _; (with_reducible repeat (first | refine blk_drewN ?_ _ | refine blk_drew ?_ | refine blk_alloc ?_ _)); refine blk_far ?_ NB115_127.out _; (with_reducible repeat (first | refine blk_drewN ?_ _ | refine blk_drew ?_ | refine blk_alloc ?_ _)); refine blk_far ?_ NB115_127.out _; (with_reducible repeat (first | refine blk_drewN ?_ _ | refine blk_drew ?_ | refine blk_alloc ?_ _)); exact BK115.out⟩
          have n2_ : Aside0 (((((w37.setCell ⟨gb127, 0, none⟩ (.int .i64 t122)).setCell ⟨gb127, 1, none⟩ (.int .i64 t123)).setCell ⟨gb127, 2, none⟩ (.int .i64 t124)).setCell ⟨gb127, 3, none⟩ (.string t125)).heap[gb121]? = some (.cells #[.int .i64 t116, .int .i64 t117, .int .i64 t118, .string t119] 24 (0, 0))) := ⟨by (with_reducible repeat (first | refine blk_drewN ?_ _ | refine blk_drew ?_ | refine blk_alloc ?_ _)); refine blk_far ?_ NB121_127.out _; (with_reducible repeat (first | refine blk_drewN ?_ _ | refine blk_drew ?_ | refine blk_alloc ?_ _)); refine blk_far ?_ NB121_127.out _; (with_reducible repeat (first | refine blk_drewN ?_ _ | refine blk_drew ?_ | refine blk_alloc ?_ _)); refine blk_far ?_ NB121_127.out _; (with_reducible repeat (first | refine blk_drewN ?_ _ | refine blk_drew ?_ | refine blk_alloc ?_ _)); refine blk_far ?_ NB121_127.out _; (with_reducible repeat (first | refine blk_drewN ?_ _ | refine blk_drew ?_ | refine blk_alloc ?_ _)); exact BK121.out⟩
          have n3_ : Aside0 (((((w37.setCell ⟨gb127, 0, none⟩ (.int .i64 t122)).setCell ⟨gb127, 1, none⟩ (.int .i64 t123)).setCell ⟨gb127, 2, none⟩ (.int .i64 t124)).setCell ⟨gb127, 3, none⟩ (.string t125)).heap[gb127]? = some (.cells #[.int .i64 t122, .int .i64 t123, .int .i64 t124, .string t125] 24 (0, 0))) := ⟨by (with_reducible repeat (first | refine blk_drewN ?_ _ | refine blk_drew ?_ | refine blk_alloc ?_ _)); refine blk_put (cs := #[.int .i64 t122, .int .i64 t123, .int .i64 t124, .string (⟨#[]⟩ : ByteArray)]) ?_ 3 _ rfl; (with_reducible repeat (first | refine blk_drewN ?_ _ | refine blk_drew ?_ | refine blk_alloc ?_ _)); refine blk_put (cs := #[.int .i64 t122, .int .i64 t123, .int .i64 0, .string (⟨#[]⟩ : ByteArray)]) ?_ 2 _ rfl; (with_reducible repeat (first | refine blk_drewN ?_ _ | refine blk_drew ?_ | refine blk_alloc ?_ _)); refine blk_put (cs := #[.int .i64 t122, .int .i64 0, .int .i64 0, .string (⟨#[]⟩ : ByteArray)]) ?_ 1 _ rfl; (with_reducible repeat (first | refine blk_drewN ?_ _ | refine blk_drew ?_ | refine blk_alloc ?_ _)); refine blk_put (cs := #[.int .i64 0, .int .i64 0, .int .i64 0, .string (⟨#[]⟩ : ByteArray)]) ?_ 0 _ rfl; (with_reducible repeat (first | refine blk_drewN ?_ _ | refine blk_drew ?_ | refine blk_alloc ?_ _)); exact BK127.out⟩
          have n4_ : Aside0 (Below w.heap.size w ((((w37.setCell ⟨gb127, 0, none⟩ (.int .i64 t122)).setCell ⟨gb127, 1, none⟩ (.int .i64 t123)).setCell ⟨gb127, 2, none⟩ (.int .i64 t124)).setCell ⟨gb127, 3, none⟩ (.string t125))) := ⟨by repeat (first | (with_reducible first | exact HB.out | apply below_alloc | apply pw_below_drewN | apply below_drew1 | refine below_set ?_ GE108.out | refine below_set ?_ GE115.out | refine below_set ?_ GE121.out | refine below_set ?_ GE127.out) | exact HB.out)⟩
          (try clear BK108)
          (try clear BK115)
          (try clear BK121)
          (try clear BK127)
          (try clear HB)
          generalize ((((w37.setCell ⟨gb127, 0, none⟩ (.int .i64 t122)).setCell ⟨gb127, 1, none⟩ (.int .i64 t123)).setCell ⟨gb127, 2, none⟩ (.int .i64 t124)).setCell ⟨gb127, 3, none⟩ (.string t125)) = w42 at n0_ n1_ n2_ n3_ n4_ ⊢
          have BK108 := n0_
          have BK115 := n1_
          have BK121 := n2_
          have BK127 := n3_
          have HB := n4_
          clear n0_ n1_ n2_ n3_ n4_
          have n0_ := Aside0.mk (blk_drew BK108.out)
          have n1_ := Aside0.mk (blk_drew BK115.out)
          have n2_ := Aside0.mk (blk_drew BK121.out)
          have n3_ := Aside0.mk (blk_drew BK127.out)
          have n4_ := Aside0.mk (below_drew1 HB.out)
          clear BK108
          clear BK115
          clear BK121
          clear BK127
          clear HB
          have BK108 := n0_
          have BK115 := n1_
          have BK121 := n2_
          have BK127 := n3_
          have HB := n4_
          clear n0_ n1_ n2_ n3_ n4_
          refine start_ (n := 21) (S := fun w' => w'.cell? ⟨gb127, 0, none⟩ = some (.int .i64 t122) ∧ w'.cell? ⟨gb127, 1, none⟩ = some (.int .i64 t123) ∧ w'.cell? ⟨gb127, 2, none⟩ = some (.int .i64 t124) ∧ w'.cell? ⟨gb127, 3, none⟩ = some (.string t125) ∧ w'.cell? ⟨gb108, 0, none⟩ = some (.int .i64 t104) ∧ w'.cell? ⟨gb108, 1, none⟩ = some (.int .i64 t105) ∧ w'.cell? ⟨gb108, 2, none⟩ = some (.int .i64 t106) ∧ w'.cell? ⟨gb108, 3, none⟩ = some (.string t107)) (ds := []) #[false, false, false, false, false, false, false, false, false, false, false, false, false, false, false, false, false, false, false, false, false] (by kernel_rfl) rfl rfl ⟨(blk_cell BK127.out 0).trans rfl, (blk_cell BK127.out 1).trans rfl, (blk_cell BK127.out 2).trans rfl, (blk_cell BK127.out 3).trans rfl, (blk_cell BK108.out 0).trans rfl, (blk_cell BK108.out 1).trans rfl, (blk_cell BK108.out 2).trans rfl, (blk_cell BK108.out 3).trans rfl⟩ (fun hHeld => ?_); refine with_tabW federationlaw2_KeyNumbers.tab7 federationlaw2_KeyNumbers.bits7 (fun HT_ HW_ => ?_)
          generalize w42.drew = w43 at BK108 BK115 BK121 BK127 HB hHeld ⊢
          refine pure_ (i := 0) (N := some 42) (v := ?_) (a' := ?_) #[true, false, false, false, false, false, false, false, false, false, false, false, false, false, false, false, false, false, false, false, false] rfl rfl (any_of HT_.out (by kernel_rfl)) (fun _ _ _ h => h) (Or.inl ⟨by rfl, ?_⟩) ?_ ?_
          rotate_left
          · intro w'
            go_simp
            with_reducible rfl
          rotate_left
          · simp only [Act.put, List.setIfInBounds_toArray, List.set_cons_zero, List.set_cons_succ, i64_w, i32_w]
            rfl
          refine pure_ (i := 1) (N := some 43) (v := ?_) (a' := ?_) #[true, true, false, false, false, false, false, false, false, false, false, false, false, false, false, false, false, false, false, false, false] rfl rfl (any_of HT_.out (by kernel_rfl)) (fun _ _ _ h => h) (Or.inl ⟨by rfl, ?_⟩) ?_ ?_
          rotate_left
          · intro w'
            go_simp
            with_reducible rfl
          rotate_left
          · simp only [Act.put, List.setIfInBounds_toArray, List.set_cons_zero, List.set_cons_succ, i64_w, i32_w]
            rfl
          refine pure_ (i := 2) (N := some 44) (v := ?_) (a' := ?_) #[true, true, true, false, false, false, false, false, false, false, false, false, false, false, false, false, false, false, false, false, false] rfl rfl (any_of HT_.out (by kernel_rfl)) (fun _ _ _ h => h) (Or.inl ⟨by rfl, ?_⟩) ?_ ?_
          rotate_left
          · intro w'
            go_simp
            with_reducible rfl
          rotate_left
          · simp only [Act.put, List.setIfInBounds_toArray, List.set_cons_zero, List.set_cons_succ, i64_w, i32_w]
            rfl
          refine pure_ (i := 3) (N := some 45) (v := ?_) (a' := ?_) #[true, true, true, true, false, false, false, false, false, false, false, false, false, false, false, false, false, false, false, false, false] rfl rfl (any_of HT_.out (by kernel_rfl)) (fun _ _ _ h => h) (Or.inl ⟨by rfl, ?_⟩) ?_ ?_
          rotate_left
          · intro w'
            go_simp
            with_reducible rfl
          rotate_left
          · simp only [Act.put, List.setIfInBounds_toArray, List.set_cons_zero, List.set_cons_succ, i64_w, i32_w]
            rfl
          refine pure_ (i := 4) (N := some 46) (v := ?_) (a' := ?_) #[true, true, true, true, true, false, false, false, false, false, false, false, false, false, false, false, false, false, false, false, false] rfl rfl (any_of HT_.out (by kernel_rfl)) (fun _ _ _ h => h) (Or.inl ⟨by rfl, ?_⟩) ?_ ?_
          rotate_left
          · intro w'
            go_simp
            with_reducible rfl
          rotate_left
          · simp only [Act.put, List.setIfInBounds_toArray, List.set_cons_zero, List.set_cons_succ, i64_w, i32_w]
            rfl
          refine pure_ (i := 5) (N := some 47) (v := ?_) (a' := ?_) #[true, true, true, true, true, true, false, false, false, false, false, false, false, false, false, false, false, false, false, false, false] rfl rfl (any_of HT_.out (by kernel_rfl)) (fun _ _ _ h => h) (Or.inl ⟨by rfl, ?_⟩) ?_ ?_
          rotate_left
          · intro w'
            go_simp
            with_reducible rfl
          rotate_left
          · simp only [Act.put, List.setIfInBounds_toArray, List.set_cons_zero, List.set_cons_succ, i64_w, i32_w]
            rfl
          refine pure_ (i := 6) (N := some 48) (v := ?_) (a' := ?_) #[true, true, true, true, true, true, true, false, false, false, false, false, false, false, false, false, false, false, false, false, false] rfl rfl (any_of HT_.out (by kernel_rfl)) (fun _ _ _ h => h) (Or.inl ⟨by rfl, ?_⟩) ?_ ?_
          rotate_left
          · intro w'
            go_simp
            with_reducible rfl
          rotate_left
          · simp only [Act.put, List.setIfInBounds_toArray, List.set_cons_zero, List.set_cons_succ, i64_w, i32_w]
            rfl
          refine take_ (i := 7) (N := some 49) (v := ?_) (a' := ?_) #[true, true, true, true, true, true, true, true, false, false, false, false, false, false, false, false, false, false, false, false, false] rfl rfl (take_ofW HT_.out HW_.out (by kernel_rfl)) (fun _ _ _ h => h) (Or.inl ⟨by rfl, ?_⟩) hHeld ?_ ?_
          rotate_left
          · rintro w' ⟨s0, s1, s2, s3, s4, s5, s6, s7⟩
            go_simp
            with_reducible rfl
          rotate_left
          · simp only [Act.put, List.setIfInBounds_toArray, List.set_cons_zero, List.set_cons_succ, i64_w, i32_w]
            rfl
          refine take_ (i := 9) (N := some 51) (v := ?_) (a' := ?_) #[true, true, true, true, true, true, true, true, false, true, false, false, false, false, false, false, false, false, false, false, false] rfl rfl (take_ofW HT_.out HW_.out (by kernel_rfl)) (fun _ _ _ h => h) (Or.inl ⟨by rfl, ?_⟩) hHeld ?_ ?_
          rotate_left
          · rintro w' ⟨s0, s1, s2, s3, s4, s5, s6, s7⟩
            go_simp
            with_reducible rfl
          rotate_left
          · simp only [Act.put, List.setIfInBounds_toArray, List.set_cons_zero, List.set_cons_succ, i64_w, i32_w]
            rfl
          refine one_ (i := 8) (N := some 50) #[true, true, true, true, true, true, true, true, true, true, false, false, false, false, false, false, false, false, false, false, false] rfl rfl (one_of HT_.out (by kernel_rfl)) (by decide) (fun K hK => ?_)
          refine goes_ Try.func14 (by kernel_rfl) rfl #[.agg #[.int .i64 t122, .int .i64 t123, .int .i64 t124, .string t125]] (by rfl) rfl rfl (by (try simp only [List.map_toArray, List.map_cons, List.map_nil]); first | done | rfl | (simp only [List.length_drop, List.length_take]; rfl)) ?_
          with_reducible refine (key_Key.calls k t122 t123 t124 t125 t128 _ A16.out).mono ?_
          rintro e w44 ⟨rfl, hb⟩
          refine ⟨_, rfl, ?_⟩
          have n0_ := Aside0.mk (blk_below (g := gb108) (o := .cells #[.int .i64 t104, .int .i64 t105, .int .i64 t106, .string t107] 24 (0, 0)) (by (with_reducible repeat (first | refine blk_drewN ?_ _ | refine blk_drew ?_ | refine blk_alloc ?_ _)); exact BK108.out) hb)
          have n1_ := Aside0.mk (blk_below (g := gb115) (o := .cells #[.int .i64 t111, .int .i64 t112, .int .i64 t113, .string t114] 24 (0, 0)) (by (with_reducible repeat (first | refine blk_drewN ?_ _ | refine blk_drew ?_ | refine blk_alloc ?_ _)); exact BK115.out) hb)
          have n2_ := Aside0.mk (blk_below (g := gb121) (o := .cells #[.int .i64 t116, .int .i64 t117, .int .i64 t118, .string t119] 24 (0, 0)) (by (with_reducible repeat (first | refine blk_drewN ?_ _ | refine blk_drew ?_ | refine blk_alloc ?_ _)); exact BK121.out) hb)
          have n3_ := Aside0.mk (blk_below (g := gb127) (o := .cells #[.int .i64 t122, .int .i64 t123, .int .i64 t124, .string t125] 24 (0, 0)) (by (with_reducible repeat (first | refine blk_drewN ?_ _ | refine blk_drew ?_ | refine blk_alloc ?_ _)); exact BK127.out) hb)
          have n4_ := Aside0.mk (below_step (by repeat (first | (with_reducible first | exact HB.out | apply below_alloc | apply pw_below_drewN | apply below_drew1 | refine below_set ?_ GE108.out | refine below_set ?_ GE115.out | refine below_set ?_ GE121.out | refine below_set ?_ GE127.out) | exact HB.out)) hb)
          clear BK108
          clear BK115
          clear BK121
          clear BK127
          clear HB
          have BK108 := n0_
          have BK115 := n1_
          have BK121 := n2_
          have BK127 := n3_
          have HB := n4_
          clear n0_ n1_ n2_ n3_ n4_
          (try clear hb)
          (try clear hb2)
          (try clear hk)
          (try clear hi)
          refine hK.out _ _ ⟨(blk_cell BK127.out 0).trans rfl, (blk_cell BK127.out 1).trans rfl, (blk_cell BK127.out 2).trans rfl, (blk_cell BK127.out 3).trans rfl, (blk_cell BK108.out 0).trans rfl, (blk_cell BK108.out 1).trans rfl, (blk_cell BK108.out 2).trans rfl, (blk_cell BK108.out 3).trans rfl⟩ (fun hHeld => ?_)
          clear hK K
          refine norm_ (a' := ?_) ?_ ?_
          rotate_left
          · show Act.put _ (some 50) _ = _
            simp only [Act.put, List.setIfInBounds_toArray, List.set_cons_zero, List.set_cons_succ, i64_w, i32_w]
            rfl
          refine one_ (i := 10) (N := some 52) #[true, true, true, true, true, true, true, true, true, true, true, false, false, false, false, false, false, false, false, false, false] rfl rfl (one_of HT_.out (by kernel_rfl)) (by decide) (fun K hK => ?_)
          refine goes_ Try.func14 (by kernel_rfl) rfl #[.agg #[.int .i64 t104, .int .i64 t105, .int .i64 t106, .string t107]] (by rfl) rfl rfl (by (try simp only [List.map_toArray, List.map_cons, List.map_nil]); first | done | rfl | (simp only [List.length_drop, List.length_take]; rfl)) ?_
          with_reducible refine (key_Key.calls k t104 t105 t106 t107 t129 _ A17.out).mono ?_
          rintro e w45 ⟨rfl, hb⟩
          refine ⟨_, rfl, ?_⟩
          have n0_ := Aside0.mk (blk_below (g := gb108) (o := .cells #[.int .i64 t104, .int .i64 t105, .int .i64 t106, .string t107] 24 (0, 0)) (by (with_reducible repeat (first | refine blk_drewN ?_ _ | refine blk_drew ?_ | refine blk_alloc ?_ _)); exact BK108.out) hb)
          have n1_ := Aside0.mk (blk_below (g := gb115) (o := .cells #[.int .i64 t111, .int .i64 t112, .int .i64 t113, .string t114] 24 (0, 0)) (by (with_reducible repeat (first | refine blk_drewN ?_ _ | refine blk_drew ?_ | refine blk_alloc ?_ _)); exact BK115.out) hb)
          have n2_ := Aside0.mk (blk_below (g := gb121) (o := .cells #[.int .i64 t116, .int .i64 t117, .int .i64 t118, .string t119] 24 (0, 0)) (by (with_reducible repeat (first | refine blk_drewN ?_ _ | refine blk_drew ?_ | refine blk_alloc ?_ _)); exact BK121.out) hb)
          have n3_ := Aside0.mk (blk_below (g := gb127) (o := .cells #[.int .i64 t122, .int .i64 t123, .int .i64 t124, .string t125] 24 (0, 0)) (by (with_reducible repeat (first | refine blk_drewN ?_ _ | refine blk_drew ?_ | refine blk_alloc ?_ _)); exact BK127.out) hb)
          have n4_ := Aside0.mk (below_step (by repeat (first | (with_reducible first | exact HB.out | apply below_alloc | apply pw_below_drewN | apply below_drew1 | refine below_set ?_ GE108.out | refine below_set ?_ GE115.out | refine below_set ?_ GE121.out | refine below_set ?_ GE127.out) | exact HB.out)) hb)
          clear BK108
          clear BK115
          clear BK121
          clear BK127
          clear HB
          have BK108 := n0_
          have BK115 := n1_
          have BK121 := n2_
          have BK127 := n3_
          have HB := n4_
          clear n0_ n1_ n2_ n3_ n4_
          (try clear hb)
          (try clear hb2)
          (try clear hk)
          (try clear hi)
          refine hK.out _ _ ⟨(blk_cell BK127.out 0).trans rfl, (blk_cell BK127.out 1).trans rfl, (blk_cell BK127.out 2).trans rfl, (blk_cell BK127.out 3).trans rfl, (blk_cell BK108.out 0).trans rfl, (blk_cell BK108.out 1).trans rfl, (blk_cell BK108.out 2).trans rfl, (blk_cell BK108.out 3).trans rfl⟩ (fun hHeld => ?_)
          clear hK K
          refine norm_ (a' := ?_) ?_ ?_
          rotate_left
          · show Act.put _ (some 52) _ = _
            simp only [Act.put, List.setIfInBounds_toArray, List.set_cons_zero, List.set_cons_succ, i64_w, i32_w]
            rfl
          refine pure_ (i := 11) (N := some 53) (v := ?_) (a' := ?_) #[true, true, true, true, true, true, true, true, true, true, true, true, false, false, false, false, false, false, false, false, false] rfl rfl (any_of HT_.out (by kernel_rfl)) (fun _ _ _ h => h) (Or.inl ⟨by rfl, ?_⟩) ?_ ?_
          rotate_left
          · intro w'
            go_simp
            with_reducible rfl
          rotate_left
          · simp only [Act.put, List.setIfInBounds_toArray, List.set_cons_zero, List.set_cons_succ, i64_w, i32_w]
            rfl
          refine pure_ (i := 12) (N := some 54) (v := ?_) (a' := ?_) #[true, true, true, true, true, true, true, true, true, true, true, true, true, false, false, false, false, false, false, false, false] rfl rfl (any_of HT_.out (by kernel_rfl)) (fun _ _ _ h => h) (Or.inl ⟨by rfl, ?_⟩) ?_ ?_
          rotate_left
          · intro w'
            go_simp
            with_reducible rfl
          rotate_left
          · simp only [Act.put, List.setIfInBounds_toArray, List.set_cons_zero, List.set_cons_succ, i64_w, i32_w]
            rfl
          refine pure_ (i := 13) (N := some 55) (v := ?_) (a' := ?_) #[true, true, true, true, true, true, true, true, true, true, true, true, true, true, false, false, false, false, false, false, false] rfl rfl (any_of HT_.out (by kernel_rfl)) (fun _ _ _ h => h) (Or.inl ⟨by rfl, ?_⟩) ?_ ?_
          rotate_left
          · intro w'
            go_simp
            with_reducible rfl
          rotate_left
          · simp only [Act.put, List.setIfInBounds_toArray, List.set_cons_zero, List.set_cons_succ, i64_w, i32_w]
            rfl
          refine take_ (i := 14) (N := some 56) (v := ?_) (a' := ?_) #[true, true, true, true, true, true, true, true, true, true, true, true, true, true, true, false, false, false, false, false, false] rfl rfl (take_ofW HT_.out HW_.out (by kernel_rfl)) (fun _ _ _ h => h) (Or.inl ⟨by rfl, ?_⟩) hHeld ?_ ?_
          rotate_left
          · rintro w' ⟨s0, s1, s2, s3, s4, s5, s6, s7⟩
            go_simp
            with_reducible rfl
          rotate_left
          · simp only [Act.put, List.setIfInBounds_toArray, List.set_cons_zero, List.set_cons_succ, i64_w, i32_w]
            rfl
          refine take_ (i := 16) (N := some 58) (v := ?_) (a' := ?_) #[true, true, true, true, true, true, true, true, true, true, true, true, true, true, true, false, true, false, false, false, false] rfl rfl (take_ofW HT_.out HW_.out (by kernel_rfl)) (fun _ _ _ h => h) (Or.inl ⟨by rfl, ?_⟩) hHeld ?_ ?_
          rotate_left
          · rintro w' ⟨s0, s1, s2, s3, s4, s5, s6, s7⟩
            go_simp
            with_reducible rfl
          rotate_left
          · simp only [Act.put, List.setIfInBounds_toArray, List.set_cons_zero, List.set_cons_succ, i64_w, i32_w]
            rfl
          refine one_ (i := 15) (N := some 57) #[true, true, true, true, true, true, true, true, true, true, true, true, true, true, true, true, true, false, false, false, false] rfl rfl (one_of HT_.out (by kernel_rfl)) (by decide) (fun K hK => ?_)
          refine goes_ Try.func14 (by kernel_rfl) rfl #[.agg #[.int .i64 t122, .int .i64 t123, .int .i64 t124, .string t125]] (by rfl) rfl rfl (by (try simp only [List.map_toArray, List.map_cons, List.map_nil]); first | done | rfl | (simp only [List.length_drop, List.length_take]; rfl)) ?_
          with_reducible refine (key_Key.calls k t122 t123 t124 t125 t130 _ A19.out).mono ?_
          rintro e w46 ⟨rfl, hb⟩
          refine ⟨_, rfl, ?_⟩
          have n0_ := Aside0.mk (blk_below (g := gb108) (o := .cells #[.int .i64 t104, .int .i64 t105, .int .i64 t106, .string t107] 24 (0, 0)) (by (with_reducible repeat (first | refine blk_drewN ?_ _ | refine blk_drew ?_ | refine blk_alloc ?_ _)); exact BK108.out) hb)
          have n1_ := Aside0.mk (blk_below (g := gb115) (o := .cells #[.int .i64 t111, .int .i64 t112, .int .i64 t113, .string t114] 24 (0, 0)) (by (with_reducible repeat (first | refine blk_drewN ?_ _ | refine blk_drew ?_ | refine blk_alloc ?_ _)); exact BK115.out) hb)
          have n2_ := Aside0.mk (blk_below (g := gb121) (o := .cells #[.int .i64 t116, .int .i64 t117, .int .i64 t118, .string t119] 24 (0, 0)) (by (with_reducible repeat (first | refine blk_drewN ?_ _ | refine blk_drew ?_ | refine blk_alloc ?_ _)); exact BK121.out) hb)
          have n3_ := Aside0.mk (blk_below (g := gb127) (o := .cells #[.int .i64 t122, .int .i64 t123, .int .i64 t124, .string t125] 24 (0, 0)) (by (with_reducible repeat (first | refine blk_drewN ?_ _ | refine blk_drew ?_ | refine blk_alloc ?_ _)); exact BK127.out) hb)
          have n4_ := Aside0.mk (below_step (by repeat (first | (with_reducible first | exact HB.out | apply below_alloc | apply pw_below_drewN | apply below_drew1 | refine below_set ?_ GE108.out | refine below_set ?_ GE115.out | refine below_set ?_ GE121.out | refine below_set ?_ GE127.out) | exact HB.out)) hb)
          clear BK108
          clear BK115
          clear BK121
          clear BK127
          clear HB
          have BK108 := n0_
          have BK115 := n1_
          have BK121 := n2_
          have BK127 := n3_
          have HB := n4_
          clear n0_ n1_ n2_ n3_ n4_
          (try clear hb)
          (try clear hb2)
          (try clear hk)
          (try clear hi)
          refine hK.out _ _ ⟨(blk_cell BK127.out 0).trans rfl, (blk_cell BK127.out 1).trans rfl, (blk_cell BK127.out 2).trans rfl, (blk_cell BK127.out 3).trans rfl, (blk_cell BK108.out 0).trans rfl, (blk_cell BK108.out 1).trans rfl, (blk_cell BK108.out 2).trans rfl, (blk_cell BK108.out 3).trans rfl⟩ (fun hHeld => ?_)
          clear hK K
          refine norm_ (a' := ?_) ?_ ?_
          rotate_left
          · show Act.put _ (some 57) _ = _
            simp only [Act.put, List.setIfInBounds_toArray, List.set_cons_zero, List.set_cons_succ, i64_w, i32_w]
            rfl
          refine one_ (i := 17) (N := some 59) #[true, true, true, true, true, true, true, true, true, true, true, true, true, true, true, true, true, true, false, false, false] rfl rfl (one_of HT_.out (by kernel_rfl)) (by decide) (fun K hK => ?_)
          refine goes_ Try.func16 (by kernel_rfl) rfl #[.agg #[.int .i64 t104, .int .i64 t105, .int .i64 t106, .string t107]] (by rfl) rfl rfl (by (try simp only [List.map_toArray, List.map_cons, List.map_nil]); first | done | rfl | (simp only [List.length_drop, List.length_take]; rfl)) ?_
          with_reducible refine (federationref2_Key.calls k t104 t105 t106 t107 t131 _ A20.out).mono ?_
          rintro e w47 ⟨rfl, hb⟩
          refine ⟨_, rfl, ?_⟩
          have n0_ := Aside0.mk (blk_below (g := gb108) (o := .cells #[.int .i64 t104, .int .i64 t105, .int .i64 t106, .string t107] 24 (0, 0)) (by (with_reducible repeat (first | refine blk_drewN ?_ _ | refine blk_drew ?_ | refine blk_alloc ?_ _)); exact BK108.out) hb)
          have n1_ := Aside0.mk (blk_below (g := gb115) (o := .cells #[.int .i64 t111, .int .i64 t112, .int .i64 t113, .string t114] 24 (0, 0)) (by (with_reducible repeat (first | refine blk_drewN ?_ _ | refine blk_drew ?_ | refine blk_alloc ?_ _)); exact BK115.out) hb)
          have n2_ := Aside0.mk (blk_below (g := gb121) (o := .cells #[.int .i64 t116, .int .i64 t117, .int .i64 t118, .string t119] 24 (0, 0)) (by (with_reducible repeat (first | refine blk_drewN ?_ _ | refine blk_drew ?_ | refine blk_alloc ?_ _)); exact BK121.out) hb)
          have n3_ := Aside0.mk (blk_below (g := gb127) (o := .cells #[.int .i64 t122, .int .i64 t123, .int .i64 t124, .string t125] 24 (0, 0)) (by (with_reducible repeat (first | refine blk_drewN ?_ _ | refine blk_drew ?_ | refine blk_alloc ?_ _)); exact BK127.out) hb)
          have n4_ := Aside0.mk (below_step (by repeat (first | (with_reducible first | exact HB.out | apply below_alloc | apply pw_below_drewN | apply below_drew1 | refine below_set ?_ GE108.out | refine below_set ?_ GE115.out | refine below_set ?_ GE121.out | refine below_set ?_ GE127.out) | exact HB.out)) hb)
          clear BK108
          clear BK115
          clear BK121
          clear BK127
          clear HB
          have BK108 := n0_
          have BK115 := n1_
          have BK121 := n2_
          have BK127 := n3_
          have HB := n4_
          clear n0_ n1_ n2_ n3_ n4_
          (try clear hb)
          (try clear hb2)
          (try clear hk)
          (try clear hi)
          refine hK.out _ _ ⟨(blk_cell BK127.out 0).trans rfl, (blk_cell BK127.out 1).trans rfl, (blk_cell BK127.out 2).trans rfl, (blk_cell BK127.out 3).trans rfl, (blk_cell BK108.out 0).trans rfl, (blk_cell BK108.out 1).trans rfl, (blk_cell BK108.out 2).trans rfl, (blk_cell BK108.out 3).trans rfl⟩ (fun hHeld => ?_)
          clear hK K
          refine norm_ (a' := ?_) ?_ ?_
          rotate_left
          · show Act.put _ (some 59) _ = _
            simp only [Act.put, List.setIfInBounds_toArray, List.set_cons_zero, List.set_cons_succ, i64_w, i32_w]
            rfl
          refine pure_ (i := 18) (N := some 60) (v := ?_) (a' := ?_) #[true, true, true, true, true, true, true, true, true, true, true, true, true, true, true, true, true, true, true, false, false] rfl rfl (any_of HT_.out (by kernel_rfl)) (fun _ _ _ h => h) (Or.inl ⟨by rfl, ?_⟩) ?_ ?_
          rotate_left
          · intro w'
            go_simp
            with_reducible rfl
          rotate_left
          · simp only [Act.put, List.setIfInBounds_toArray, List.set_cons_zero, List.set_cons_succ, i64_w, i32_w]
            rfl
          refine pure_ (i := 19) (N := some 61) (v := ?_) (a' := ?_) #[true, true, true, true, true, true, true, true, true, true, true, true, true, true, true, true, true, true, true, true, false] rfl rfl (any_of HT_.out (by kernel_rfl)) (fun _ _ _ h => h) (Or.inl ⟨by rfl, ?_⟩) ?_ ?_
          rotate_left
          · intro w'
            go_simp
            with_reducible rfl
          rotate_left
          · simp only [Act.put, List.setIfInBounds_toArray, List.set_cons_zero, List.set_cons_succ, i64_w, i32_w]
            rfl
          refine pure_ (i := 20) (N := some 6) (v := ?_) (a' := ?_) #[true, true, true, true, true, true, true, true, true, true, true, true, true, true, true, true, true, true, true, true, true] rfl rfl (any_of HT_.out (by kernel_rfl)) (fun _ _ _ h => h) (Or.inl ⟨by rfl, ?_⟩) ?_ ?_
          rotate_left
          · intro w'
            go_simp
            with_reducible rfl
          rotate_left
          · simp only [Act.put, List.setIfInBounds_toArray, List.set_cons_zero, List.set_cons_succ, i64_w, i32_w]
            rfl
          refine done_ (done_of HT_.out (by kernel_rfl)) ?_
          try go_wp2
          go_ret
          exact ⟨by first | rfl | (simp [errW_none, errW_some] <;> rfl) | (simp [*, errW_none, errW_some] <;> rfl), by repeat (first | (with_reducible first | exact HB.out | apply below_alloc | apply pw_below_drewN | apply below_drew1 | refine below_set ?_ GE108.out | refine below_set ?_ GE115.out | refine below_set ?_ GE121.out | refine below_set ?_ GE127.out) | exact HB.out)⟩
        · rw [if_neg c18] at H
          exact absurd H (by simp)
      · rw [if_neg c15] at H
        exact absurd H (by simp)
    · rw [if_neg c14] at H
      exact absurd H (by simp)
  · replace c5 := Bool.eq_false_iff.mpr c5
    subst c5
    have H1 : (none) = some r := by rw [if_neg (show ¬ (false = true) by decide)] at H; exact H
    clear H
    have H := H1
    clear H1
    exact absurd H (by simp)
def federationlaw2_KeyNumbers.Pure : Prop := ∀ (a0 : Int) (a1 : Int) (a2 : Int), (Lit.int .i64 a0).wf = true → (Lit.int .i64 a1).wf = true → (Lit.int .i64 a2).wf = true → ∃ k, federationlaw2_KeyNumbers.f k a0 a1 a2 = some true
theorem federationlaw2_KeyNumbers.walk (P : federationlaw2_KeyNumbers.Pure) (a0 : Int) (a1 : Int) (a2 : Int) (w : World) (w0 : (Lit.int .i64 a0).wf = true) (w1 : (Lit.int .i64 a1).wf = true) (w2 : (Lit.int .i64 a2).wf = true) :
    Calls Try.prog 11 #[.int .i64 a0, .int .i64 a1, .int .i64 a2] w fun e w' => e = .returned (.bool true) ∧ Below w.heap.size w w' := by
  obtain ⟨k, h⟩ := P a0 a1 a2 w0 w1 w2
  refine (federationlaw2_KeyNumbers.calls k a0 a1 a2 true w h).mono ?_
  rintro e w' ⟨rfl, hd⟩
  exact ⟨rfl, hd⟩
end Go.Proofs.Ytjacflmgbmfhcaa.D
namespace Go.Proofs.Ytjacflmgbmfhcaa.D
open Go.RowKit Go.Proofs.YtjacflmgbmfhcaaW.PrintWords Go.Proofs.YtjacflmgbmfhcaaW.PrintLast Go.Proofs.YtjacflmgbmfhcaaW.PrintMore
attribute [local go_sem] max2_int min2_int max_two min_two max_three min_three max_four min_four
attribute [local go_sem high] own_gtr own_leq own_geq own_cell_set Option.map_some
set_option linter.unusedVariables false
set_option linter.unusedSimpArgs false
def p256 (n : Nat) : Int := (256 : Int) ^ n
theorem p256_pos (n : Nat) : 0 < p256 n := Int.pow_pos (by decide)
theorem p256_zero : p256 0 = 1 := rfl
theorem p256_succ (n : Nat) : p256 (n + 1) = p256 n * 256 := by unfold p256; rw [Int.pow_succ]
def be (n : Int) : Nat → List Int
  | 0 => []
  | k + 1 => (n / p256 k) % 256 :: be n k
theorem be_len (n : Int) : ∀ k, (be n k).length = k
  | 0 => rfl
  | k + 1 => by simp [be, be_len n k]
def isB (l : List Int) : Prop := ∀ x ∈ l, 0 ≤ x ∧ x < 256
theorem be_add (n m : Int) : ∀ k j, be (n + m * (p256 k * p256 j)) k = be n k
  | 0, _ => rfl
  | k + 1, j => by
    have h := be_add n m k (j + 1)
    have e : p256 (k + 1) * p256 j = p256 k * p256 (j + 1) := by rw [p256_succ, p256_succ, Int.mul_assoc, Int.mul_comm 256]
    simp only [be]
    rw [e, h]
    have d : (n + m * (p256 k * p256 (j + 1))) / p256 k = n / p256 k + m * p256 (j + 1) := by
      rw [show n + m * (p256 k * p256 (j + 1)) = n + p256 k * (m * p256 (j + 1)) by rw [← Int.mul_assoc, Int.mul_comm m, Int.mul_assoc], Int.add_mul_ediv_left _ _ (by have := p256_pos k; omega)]
    rw [d, p256_succ, ← Int.mul_assoc]
    congr 1
    omega
theorem shr8 (n : Int) (j : Nat) (h : j ≤ 8) : shr .i64 n ((8 * j : Nat) : Int) = n / p256 j := by
  have hb : IntKind.i64.bits = 64 := rfl
  unfold shr p256
  rw [hb, Int.toNat_natCast, Nat.min_eq_left (by omega), Int.pow_mul]
  rfl
theorem key_number_l0 (n : Int) : ∀ (j k : Nat) (acc : List Int), j < k → j ≤ 8 → acc.length + j ≤ 100 → key_number.l0 k n acc (8 * (j : Int) - 8) = some (acc ++ be n j)
  | 0, k, acc, hk, hj, ha => by
    obtain ⟨k, rfl⟩ : ∃ m, k = m + 1 := ⟨k - 1, by omega⟩
    simp only [key_number.l0]; rw [if_neg (by omega), be, List.append_nil]
  | j + 1, k, acc, hk, hj, ha => by
    obtain ⟨k, rfl⟩ : ∃ m, k = m + 1 := ⟨k - 1, by omega⟩
    have e : 8 * ((j + 1 : Nat) : Int) - 8 = ((8 * j : Nat) : Int) := by omega
    simp only [key_number.l0]
    rw [e, if_pos (by omega), if_pos (by omega), if_pos (by omega), shr8 n j (by omega), wrap64_of (by omega) (by omega)]
    have := key_number_l0 n j k (acc ++ [n / p256 j % 256]) (by omega) (by omega) (by
      simp only [List.length_append, List.length_singleton]; omega)
    rw [show ((8 * j : Nat) : Int) - 8 = 8 * (j : Int) - 8 by omega, this, be, List.append_assoc]
    rfl
theorem key_number_eq (n : Int) (j k : Nat) (hk : j < k) (h1 : 1 ≤ j) (hj : j ≤ 8) : key_number.f k n (j : Int) = some (be n j) := by
  unfold key_number.f
  rw [wrap64_of (x := (j : Int) - 1) (by omega) (by omega), wrap64_of (by omega) (by omega), show 8 * ((j : Int) - 1) = 8 * (j : Int) - 8 by omega, key_number_l0 n j k [] hk hj (by simp; omega)]
  rfl
theorem nat_xor_top (r : Nat) (h : r < 9223372036854775808) : r ^^^ 9223372036854775808 = r + 9223372036854775808 := by
  apply Nat.eq_of_testBit_eq
  intro i
  have e : 9223372036854775808 = 2 ^ 63 := by decide
  rw [Nat.testBit_xor, e, Nat.add_comm, Nat.testBit_two_pow]
  by_cases c : i = 63
  · subst c
    rw [Nat.testBit_two_pow_add_eq]
    simp
  · by_cases c2 : i < 63
    · rw [Nat.testBit_two_pow_add_gt c2]
      simp [Ne.symm c]
    · have h1 : r.testBit i = false := Nat.testBit_lt_two_pow (Nat.lt_of_lt_of_le h (by rw [e]; exact Nat.pow_le_pow_right (by decide) (by omega)))
      have h2 : (2 ^ 63 + r).testBit i = false := Nat.testBit_lt_two_pow (Nat.lt_of_lt_of_le (m := 2 ^ 64) (by omega) (Nat.pow_le_pow_right (by decide) (by omega)))
      rw [h1, h2]
      simp [Ne.symm c]
theorem nat_xor_top' (r : Nat) (h : r < 18446744073709551616) : r ^^^ 9223372036854775808 = (r + 9223372036854775808) % 18446744073709551616 := by
  by_cases c : r < 9223372036854775808
  · rw [nat_xor_top r c]; omega
  · obtain ⟨q, rfl⟩ : ∃ q, r = q + 9223372036854775808 := ⟨r - 9223372036854775808, by omega⟩
    rw [← nat_xor_top q (by omega), Nat.xor_assoc, Nat.xor_self, Nat.xor_zero]
    rw [nat_xor_top q (by omega)]
    omega
theorem toNat_ofInt (a : Int) : ((BitVec.ofInt 64 a).toNat : Int) = a % 18446744073709551616 := by
  rw [BitVec.toNat_ofInt]
  have : (0 : Int) ≤ a % ((2 ^ 64 : Nat) : Int) := Int.emod_nonneg _ (by decide)
  rw [Int.toNat_of_nonneg this]
  rfl
theorem i64_wrap (n : Int) : IntKind.i64.wrap n = wrap64 n := by
  simp [IntKind.wrap, IntKind.bits, IntKind.signed, wrap64]
  split <;> omega
theorem xorMin (a : Int) : Go.bits .xor .i64 a (-9223372036854775808) = wrap64 (a + 9223372036854775808) := by
  have h1 := toNat_ofInt a
  have h2 : (BitVec.ofInt 64 (-9223372036854775808)).toNat = 9223372036854775808 := by decide +kernel
  have h3 : (BitVec.ofInt 64 a).toNat < 18446744073709551616 := (BitVec.ofInt 64 a).isLt
  have hx := nat_xor_top' _ h3
  show IntKind.i64.wrap ((BitVec.ofInt 64 a ^^^ BitVec.ofInt 64 (-9223372036854775808)).toNat : Int) = _
  rw [BitVec.toNat_xor, h2, hx, i64_wrap]
  generalize (BitVec.ofInt 64 a).toNat = r at *
  unfold wrap64
  omega
theorem be_eq_of_emod {a b : Int} {k : Nat} (h : a % p256 k = b % p256 k) : be a k = be b k := by
  have h1 := Int.mul_ediv_add_emod a (p256 k)
  have h2 := Int.mul_ediv_add_emod b (p256 k)
  have := be_add b (a / p256 k - b / p256 k) k 0
  rw [p256_zero, Int.mul_one, Int.sub_mul, Int.mul_comm (a / p256 k), Int.mul_comm (b / p256 k)] at this
  rw [show b + (p256 k * (a / p256 k) - p256 k * (b / p256 k)) = a by omega] at this
  exact this
theorem p256_8 : p256 8 = 18446744073709551616 := by decide
theorem key_signed_eq (k : Nat) (a : Int) (hk : 9 < k) : key_signed.f k a = some (be (a + 9223372036854775808) 8) := by
  unfold key_signed.f
  have := key_number_eq (wrap64 (a + 9223372036854775808)) 8 k (by omega) (by decide) (by decide)
  rw [xorMin, show (8 : Int) = ((8 : Nat) : Int) from rfl, this, Option.bind_some]
  congr 1
  apply be_eq_of_emod
  rw [p256_8]; unfold wrap64; omega
end Go.Proofs.Ytjacflmgbmfhcaa.D
namespace Go.Proofs.Ytjacflmgbmfhcaa.D
open Go.RowKit Go.Proofs.YtjacflmgbmfhcaaW.PrintWords Go.Proofs.YtjacflmgbmfhcaaW.PrintLast Go.Proofs.YtjacflmgbmfhcaaW.PrintMore
attribute [local go_sem] max2_int min2_int max_two min_two max_three min_three max_four min_four
attribute [local go_sem high] own_gtr own_leq own_geq own_cell_set Option.map_some
set_option linter.unusedVariables false
set_option linter.unusedSimpArgs false
def okB (st : ByteArray) : Bool := st.data.toList.all fun b => decide (32 ≤ b.toNat ∧ b.toNat ≤ 126)
theorem bt_data (st : ByteArray) (i : Nat) (h : i < st.data.size) : bt st (i : Int) = ((st.data[i]).toNat : Int) := by
  rw [← bt_at st (i : Int) (by simpa using h)]
  rfl
theorem all_drop (st : ByteArray) (i : Nat) (h : i < st.data.size) : (st.data.toList.drop i).all (fun b => decide (32 ≤ b.toNat ∧ b.toNat ≤ 126)) = (decide (32 ≤ (st.data[i]).toNat ∧ (st.data[i]).toNat ≤ 126) && (st.data.toList.drop (i + 1)).all fun b => decide (32 ≤ b.toNat ∧ b.toNat ≤ 126)) := by
  rw [List.drop_eq_getElem_cons (by simpa using h), List.all_cons]
  simp
theorem ref_clean_l0 (st : ByteArray) (hs : st.data.size ≤ 140737488351232) : ∀ (d k i : Nat), d < k → i + d = st.data.size → federationref1_clean.l0 k st (i : Int) = some ((st.data.toList.drop i).all fun b => decide (32 ≤ b.toNat ∧ b.toNat ≤ 126))
  | 0, k, i, hk, h => by
    obtain ⟨k, rfl⟩ : ∃ m, k = m + 1 := ⟨k - 1, by omega⟩
    simp only [federationref1_clean.l0]; rw [if_neg (by have hz : st.size = st.data.size := rfl; omega), List.drop_of_length_le (by have hz : st.data.toList.length = st.data.size := rfl; omega)]; rfl
  | d + 1, k, i, hk, h => by
    obtain ⟨k, rfl⟩ : ∃ m, k = m + 1 := ⟨k - 1, by omega⟩
    simp only [federationref1_clean.l0]
    rw [if_pos (by have hz : st.size = st.data.size := rfl; omega), if_pos (by omega), bt_data st i (by omega), all_drop st i (by omega)]
    by_cases h1 : ((st.data[i]'(by omega)).toNat : Int) < 32
    · rw [if_pos h1, decide_eq_false (by omega)]; rfl
    · rw [if_neg h1]
      by_cases h2 : ((st.data[i]'(by omega)).toNat : Int) > 126
      · rw [if_pos h2, decide_eq_false (by omega)]; rfl
      · rw [if_neg h2, decide_eq_true (by omega), wrap64_of (by omega) (by omega), Bool.true_and]
        exact ref_clean_l0 st hs d k (i + 1) (by omega) (by omega)
theorem ref_clean_eq (st : ByteArray) (k : Nat) (hs : st.data.size ≤ 140737488351232) (hk : st.data.size < k) : federationref1_clean.f k st = some (okB st) := ref_clean_l0 st hs st.data.size k 0 hk (by omega)
def noS (st : ByteArray) : Bool := st.toList == ([] : List UInt8)
def rightB (kd n sc : Int) (st : ByteArray) : Bool :=
  if kd = 0 then n == 0 && (sc == 0 && noS st)
  else if kd = 1 then decide (0 ≤ n ∧ n ≤ 1) && (sc == 0 && noS st)
  else if kd = 2 then sc == 0 && noS st
  else if kd = 3 then decide (-1000000000000000 < n ∧ n < 1000000000000000 ∧ 0 ≤ sc ∧ sc ≤ 6 ∧ (sc = 0 ∨ n % 10 ≠ 0)) && noS st
  else if kd = 4 then decide (n = 0 ∧ sc = 0 ∧ st.data.size ≤ 40) && okB st
  else if kd = 5 then decide (n = 0 ∧ sc = 0 ∧ st.data.size ≤ 40)
  else false
theorem ref_Right_eq (k : Nat) (kd n sc : Int) (st : ByteArray) (hk : 42 < k) : federationref1_Right.f k kd n sc st = some (rightB kd n sc st) := by
  have hz : (st.size : Int) = (st.data.size : Int) := rfl
  unfold federationref1_Right.f rightB
  by_cases h0 : kd = 0
  · rw [if_pos h0, if_pos h0]; subst h0; simp [noS]
  rw [if_neg h0, if_neg h0]
  by_cases h1 : kd = 1
  · rw [if_pos h1, if_pos h1]
    by_cases a1 : n ≥ 0
    · rw [if_pos a1]
      by_cases a2 : n ≤ 1
      · rw [if_pos a2, decide_eq_true (by omega)]
        by_cases a3 : sc = 0
        · rw [if_pos a3]; subst a3; simp [noS]
        · rw [if_neg a3]; simp [a3]
      · rw [if_neg a2, decide_eq_false (by omega)]; rfl
    · rw [if_neg a1, decide_eq_false (by omega)]; rfl
  rw [if_neg h1, if_neg h1]
  by_cases h2 : kd = 2
  · rw [if_pos h2, if_pos h2]
    by_cases a3 : sc = 0
    · rw [if_pos a3]; subst a3; simp [noS]
    · rw [if_neg a3]; simp [a3]
  rw [if_neg h2, if_neg h2]
  by_cases h3 : kd = 3
  · rw [if_pos h3, if_pos h3]
    have ht := tmod10 n
    by_cases a1 : n > -1000000000000000
    · rw [if_pos a1]
      by_cases a2 : n < 1000000000000000
      · rw [if_pos a2]
        by_cases a3 : sc ≥ 0
        · rw [if_pos a3]
          by_cases a4 : sc ≤ 6
          · rw [if_pos a4]
            by_cases a5 : sc = 0
            · rw [if_pos a5, decide_eq_true (by omega)]; rfl
            · rw [if_neg a5]
              by_cases a6 : Int.tmod n 10 = 0
              · rw [if_pos a6, decide_eq_false (by have := ht.1 a6; omega)]; rfl
              · have : n % 10 ≠ 0 := fun e => a6 (ht.2 e)
                rw [if_neg a6, decide_eq_true (by omega)]; rfl
          · rw [if_neg a4, decide_eq_false (by omega)]; rfl
        · rw [if_neg a3, decide_eq_false (by omega)]; rfl
      · rw [if_neg a2, decide_eq_false (by omega)]; rfl
    · rw [if_neg a1, decide_eq_false (by omega)]; rfl
  rw [if_neg h3, if_neg h3]
  by_cases h4 : kd = 4
  · rw [if_pos h4, if_pos h4]
    by_cases a1 : n = 0
    · rw [if_pos a1]
      by_cases a2 : sc = 0
      · rw [if_pos a2]
        by_cases a3 : (st.size : Int) ≤ 40
        · rw [if_pos a3, ref_clean_eq st k (by omega) (by omega), decide_eq_true (by omega)]; rfl
        · rw [if_neg a3, decide_eq_false (by omega)]; rfl
      · rw [if_neg a2, decide_eq_false (by omega)]; rfl
    · rw [if_neg a1, decide_eq_false (by omega)]; rfl
  rw [if_neg h4, if_neg h4]
  by_cases h5 : kd = 5
  · rw [if_pos h5, if_pos h5]
    by_cases a1 : n = 0
    · rw [if_pos a1]
      by_cases a2 : sc = 0
      · rw [if_pos a2]
        congr 1
        rw [Bool.eq_iff_iff]; simp only [decide_eq_true_eq]; omega
      · rw [if_neg a2, decide_eq_false (by omega)]
    · rw [if_neg a1, decide_eq_false (by omega)]
  · rw [if_neg h5, if_neg h5]
end Go.Proofs.Ytjacflmgbmfhcaa.D
namespace Go.Proofs.Ytjacflmgbmfhcaa.D
open Go.RowKit Go.Proofs.YtjacflmgbmfhcaaW.PrintWords Go.Proofs.YtjacflmgbmfhcaaW.PrintLast Go.Proofs.YtjacflmgbmfhcaaW.PrintMore
attribute [local go_sem] max2_int min2_int max_two min_two max_three min_three max_four min_four
attribute [local go_sem high] own_gtr own_leq own_geq own_cell_set Option.map_some
set_option linter.unusedVariables false
set_option linter.unusedSimpArgs false
theorem son_size (L : List Int) : (strOfNums L).size = L.length := by simp [strOfNums, ByteArray.size]
theorem son_append (L M : List Int) : strOfNums L ++ strOfNums M = strOfNums (L ++ M) := by
  apply ByteArray.ext
  simp [strOfNums, ByteArray.data_append]
theorem u8_back {x : Int} (h : 0 ≤ x ∧ x < 256) : ((UInt8.ofNat x.toNat).toNat : Int) = x := by
  rw [UInt8.toNat_ofNat']
  omega
theorem byteL_isB (s : ByteArray) : isB (byteL s) := by
  intro x hx
  obtain ⟨b, _, rfl⟩ := List.mem_map.1 hx
  have := b.toNat_lt
  omega
theorem byteL_len (s : ByteArray) : (byteL s).length = s.size := by unfold byteL; rw [List.length_map]; rfl
theorem son_byteL (s : ByteArray) : strOfNums (byteL s) = s := by
  apply ByteArray.ext
  unfold strOfNums byteL
  simp only [List.map_map]
  have : (s.data.toList.map ((fun n : Int => UInt8.ofNat n.toNat) ∘ fun b : UInt8 => (b.toNat : Int))) = s.data.toList := by
    conv => rhs; rw [← List.map_id s.data.toList]
    apply List.map_congr_left
    intro x _
    simp
  rw [this]
theorem bt_son {L : List Int} (h : isB L) (i : Nat) (hi : i < L.length) : bt (strOfNums L) (i : Int) = L[i] := by
  have hs : i < (strOfNums L).data.size := by have := son_size L; have h2 : (strOfNums L).size = (strOfNums L).data.size := rfl; omega
  rw [bt_data _ i hs]
  have : (strOfNums L).data[i] = UInt8.ofNat (L[i]).toNat := by simp [strOfNums]
  rw [this]
  exact u8_back (h _ (List.getElem_mem hi))
end Go.Proofs.Ytjacflmgbmfhcaa.D
namespace Go.Proofs.Ytjacflmgbmfhcaa.D
open Go.RowKit Go.Proofs.YtjacflmgbmfhcaaW.PrintWords Go.Proofs.YtjacflmgbmfhcaaW.PrintLast Go.Proofs.YtjacflmgbmfhcaaW.PrintMore
attribute [local go_sem] max2_int min2_int max_two min_two max_three min_three max_four min_four
attribute [local go_sem high] own_gtr own_leq own_geq own_cell_set Option.map_some
set_option linter.unusedVariables false
set_option linter.unusedSimpArgs false
theorem p10_six_sub (s : Nat) (h : s ≤ 6) : p10 s * p10 (6 - s) = 1000000 := by
  rw [← p10_add, show s + (6 - s) = 6 by omega, p10_six]
theorem tdiv_pows (s : Nat) (hs : s ≤ 6) : Int.tdiv (p10 6) (p10 s) = p10 (6 - s) := by
  have h := p10_six_sub s hs
  rw [p10_six, ← h, Int.mul_comm, Int.mul_tdiv_cancel _ (by have := p10_pos s; omega)]
theorem ref_Parts_eq (k : Nat) (kd n : Int) (s : Nat) (st : ByteArray) (hk : 18 < k) (hs : s ≤ 6) (h0 : -1000000000000000 < n) (h1 : n < 1000000000000000) : federationref1_Parts.f k kd n (s : Int) st = some (n / p10 s, n % p10 s * p10 (6 - s)) := by
  unfold federationref1_Parts.f
  have hp := p10_pos s
  have hp2 := p10_le s (by omega)
  have hq := p10_pos (6 - s)
  have hq2 := p10_le (6 - s) (by omega)
  have h6 := p10_six_sub s hs
  have b1 := Int.emod_lt_of_pos n hp
  have b2 := Int.emod_nonneg n (show p10 s ≠ 0 by omega)
  have b4 : n % p10 s * p10 (6 - s) ≤ p10 s * p10 (6 - s) := Int.mul_le_mul_of_nonneg_right (by omega) (by omega)
  have b5 : 0 ≤ n % p10 s * p10 (6 - s) := Int.mul_nonneg b2 (by omega)
  have h2 := Int.mul_ediv_add_emod n (p10 s)
  have h3 := Int.mul_tdiv_add_tmod n (p10 s)
  have h4 := Int.natAbs_tdiv_le_natAbs n (p10 s)
  have b6 := Int.tmod_lt_of_pos n hp
  have b7 := Int.tmod_lt_of_pos (-n) hp
  rw [Int.neg_tmod] at b7
  rw [ref_Ten_eq k s hk (by omega)]
  simp only [Option.bind_some]
  rw [if_neg (by omega), show (6 : Int) - (s : Int) = ((6 - s : Nat) : Int) by omega]
  rw [wrap64_of (x := ((6 - s : Nat) : Int)) (by omega) (by omega), ref_Ten_eq k (6 - s) hk (by omega)]
  simp only [Option.bind_some]
  have hfl : n / p10 s = if n.tmod (p10 s) < 0 then n.tdiv (p10 s) - 1 else n.tdiv (p10 s) := by
    split
    · exact ((Int.ediv_emod_unique (r := n.tmod (p10 s) + p10 s) (q := n.tdiv (p10 s) - 1) hp).2 ⟨by rw [Int.mul_sub, Int.mul_one]; omega, by omega, by omega⟩).1
    · exact ((Int.ediv_emod_unique (r := n.tmod (p10 s)) (q := n.tdiv (p10 s)) hp).2 ⟨by omega, by omega, by omega⟩).1
  by_cases hn : n.tmod (p10 s) < 0
  · rw [if_pos hn]
    rw [if_pos hn] at hfl
    have e1 : wrap64 (n.tdiv (p10 s)) = n.tdiv (p10 s) := wrap64_of (by omega) (by omega)
    rw [e1, wrap64_of (x := n.tdiv (p10 s) - 1) (by omega) (by omega), ← hfl]
    have e2 : n / p10 s * p10 s = n - n % p10 s := by rw [Int.mul_comm]; omega
    rw [e2, wrap64_of (x := n - n % p10 s) (by omega) (by omega), show n - (n - n % p10 s) = n % p10 s by omega, wrap64_of (x := n % p10 s) (by omega) (by omega), wrap64_of (by omega) (by omega)]
  · rw [if_neg hn]
    rw [if_neg hn] at hfl
    have e1 : wrap64 (n.tdiv (p10 s)) = n.tdiv (p10 s) := wrap64_of (by omega) (by omega)
    rw [e1, ← hfl]
    have e2 : n / p10 s * p10 s = n - n % p10 s := by rw [Int.mul_comm]; omega
    rw [e2, wrap64_of (x := n - n % p10 s) (by omega) (by omega), show n - (n - n % p10 s) = n % p10 s by omega, wrap64_of (x := n % p10 s) (by omega) (by omega), wrap64_of (by omega) (by omega)]
theorem mic_ediv (n : Int) (s : Nat) (hs : s ≤ 6) : (n * p10 (6 - s)) / 1000000 = n / p10 s := by
  rw [← p10_six_sub s hs]; exact Int.mul_ediv_mul_of_pos_left _ _ (p10_pos _)
theorem mic_emod (n : Int) (s : Nat) (hs : s ≤ 6) : (n * p10 (6 - s)) % 1000000 = n % p10 s * p10 (6 - s) := by
  have h1 := Int.mul_ediv_add_emod (n * p10 (6 - s)) 1000000
  have h2 := Int.mul_ediv_add_emod n (p10 s)
  rw [mic_ediv n s hs] at h1
  have h3 : (p10 s * (n / p10 s) + n % p10 s) * p10 (6 - s) = n * p10 (6 - s) := by rw [h2]
  rw [Int.add_mul, Int.mul_assoc, Int.mul_comm (n / p10 s), ← Int.mul_assoc, p10_six_sub s hs] at h3
  omega
end Go.Proofs.Ytjacflmgbmfhcaa.D
namespace Go.Proofs.Ytjacflmgbmfhcaa.D
open Go.RowKit Go.Proofs.YtjacflmgbmfhcaaW.PrintWords Go.Proofs.YtjacflmgbmfhcaaW.PrintLast Go.Proofs.YtjacflmgbmfhcaaW.PrintMore
attribute [local go_sem] max2_int min2_int max_two min_two max_three min_three max_four min_four
attribute [local go_sem high] own_gtr own_leq own_geq own_cell_set Option.map_some
set_option linter.unusedVariables false
set_option linter.unusedSimpArgs false
def inI (x : Int) : Bool := decide (-9223372036854775808 ≤ x ∧ x ≤ 9223372036854775807)
def I64 (x : Int) : Prop := -9223372036854775808 ≤ x ∧ x ≤ 9223372036854775807
def exactly (op a b : Int) : Int := if op = 6 then a * b else if op = 7 then a + b else a - b
theorem ref_plus_eq (a b : Int) (ha : I64 a) (hb : I64 b) : federationref1_plus.f a b = some (wrap64 (a + b), inI (a + b)) := by
  unfold federationref1_plus.f inI I64 at *
  by_cases h : ((decide (a ≥ 0)) != (decide (b ≥ 0))) = true
  · rw [if_pos h]
    simp only [bne_iff_ne, ne_eq, decide_eq_decide] at h
    rw [decide_eq_true (by omega)]
  · rw [if_neg h]
    simp only [bne_iff_ne, ne_eq, decide_eq_decide] at h
    congr 2
    rw [Bool.eq_iff_iff]; simp only [beq_iff_eq, decide_eq_true_eq, decide_eq_decide]
    unfold wrap64; omega
theorem wrap64_inI (x : Int) (h : inI x = true) : wrap64 x = x := by
  unfold inI at h; simp only [decide_eq_true_eq] at h; exact wrap64_of h.1 h.2
theorem mul_back (a b : Int) (ha : I64 a) (hb : I64 b) (h0 : b ≠ 0) (hm : b ≠ -1) : (wrap64 (Int.tdiv (wrap64 (a * b)) b) = a) ↔ inI (a * b) = true := by
  unfold I64 at ha hb
  by_cases h1 : b = 1
  · subst h1
    rw [Int.mul_one, wrap64_of ha.1 ha.2, Int.tdiv_one, wrap64_of ha.1 ha.2]
    unfold inI
    simp only [decide_eq_true_eq]
    exact ⟨fun _ => ha, fun _ => trivial⟩
  have hcr : -9223372036854775808 ≤ wrap64 (a * b) ∧ wrap64 (a * b) ≤ 9223372036854775807 := by unfold wrap64; omega
  have hq : ∃ q : Int, wrap64 (a * b) = a * b - 18446744073709551616 * q := ⟨(a * b + 9223372036854775808) / 18446744073709551616, by unfold wrap64; omega⟩
  have hw : inI (a * b) = true → wrap64 (a * b) = a * b := wrap64_inI _
  have hd := Int.mul_tdiv_add_tmod (wrap64 (a * b)) b
  have hr1 : ((wrap64 (a * b)).tmod b).natAbs < b.natAbs := by rw [Int.natAbs_tmod]; exact Nat.mod_lt _ (by omega)
  have hn : ((wrap64 (a * b)).tdiv b).natAbs ≤ 4611686018427387904 := by
    rw [Int.natAbs_tdiv]
    have h1 : (wrap64 (a * b)).natAbs ≤ 9223372036854775808 := by omega
    exact Nat.le_trans (Nat.div_le_div_left (show 2 ≤ b.natAbs by omega) (by decide)) (by have := Nat.div_le_div_right (c := 2) h1; simpa using this)
  rw [wrap64_of (x := (wrap64 (a * b)).tdiv b) (by omega) (by omega)]
  constructor
  · intro h
    rw [h, Int.mul_comm b a] at hd
    obtain ⟨q, hq⟩ := hq
    unfold inI
    simp only [decide_eq_true_eq]
    generalize a * b = p at *
    generalize wrap64 p = c at *
    generalize c.tmod b = r at *
    omega
  · intro h
    rw [hw h]
    exact Int.mul_tdiv_cancel _ h0
theorem ref_times_eq (a b : Int) (ha : I64 a) (hb : I64 b) : federationref1_times.f a b = some (wrap64 (a * b), inI (a * b)) := by
  unfold federationref1_times.f
  by_cases a0 : a = 0
  · rw [if_pos a0]; subst a0; rw [Int.zero_mul]; decide +kernel
  rw [if_neg a0]
  by_cases b0 : b = 0
  · rw [if_pos b0]; subst b0; rw [Int.mul_zero]; decide +kernel
  rw [if_neg b0]
  unfold I64 at ha hb
  by_cases b1 : b = -1
  · subst b1
    have e : a * (-1 : Int) = -a := by omega
    rw [e]
    by_cases hl : a = -9223372036854775808
    · subst hl; decide +kernel
    · have h1 : wrap64 (-a) = -a := wrap64_of (by omega) (by omega)
      have h2 : (-a).tdiv (-1) = a := by rw [← e]; exact Int.mul_tdiv_cancel _ (by decide)
      have h3 : inI (-a) = true := by unfold inI; rw [decide_eq_true_eq]; omega
      rw [h1, h2, wrap64_of ha.1 ha.2, if_pos rfl, h3]
      by_cases a1 : a = -1
      · rw [if_pos a1, if_neg (by decide), if_pos rfl]; subst a1; rfl
      · rw [if_neg a1, if_pos rfl]
        have : (a == -9223372036854775808) = false := by simpa using hl
        rw [this]; rfl
  · have hb' := mul_back a b ha hb b0 b1
    by_cases h : wrap64 (Int.tdiv (wrap64 (a * b)) b) = a
    · rw [if_pos h, hb'.1 h]
      by_cases a1 : a = -1
      · rw [if_pos a1]
        have hl : b ≠ -9223372036854775808 := by
          intro e; subst e; subst a1; exact absurd (hb'.1 h) (by decide)
        rw [if_neg hl, if_neg b1]; rfl
      · rw [if_neg a1, if_neg b1]; rfl
    · rw [if_neg h]
      have : inI (a * b) = false := by
        cases hi : inI (a * b) with
        | false => rfl
        | true => exact absurd (hb'.2 hi) h
      rw [this]
def intRes (op a b : Int) : Int × Int × Int × ByteArray × Int := if inI (exactly op a b) = true then (2, exactly op a b, 0, (⟨#[]⟩ : ByteArray), 0) else (0, 0, 0, (⟨#[]⟩ : ByteArray), 10)
theorem ref_ints_eq (op a b : Int) (ha : I64 a) (hb : I64 b) : federationref1_ints.f op a b = some (intRes op a b) := by
  unfold federationref1_ints.f intRes exactly
  by_cases h7 : op = 7
  · rw [if_pos h7, if_neg (show ¬ op = 6 by omega), if_pos h7, ref_plus_eq a b ha hb]
    simp only [Option.bind_some]
    by_cases hi : inI (a + b) = true
    · rw [if_pos hi, if_pos hi, wrap64_inI _ hi]
    · rw [if_neg hi, if_neg hi]
  · rw [if_neg h7]
    by_cases h6 : op = 6
    · rw [if_pos h6, if_pos h6, ref_times_eq a b ha hb]
      simp only [Option.bind_some]
      by_cases hi : inI (a * b) = true
      · rw [if_pos hi, if_pos hi, wrap64_inI _ hi]
      · rw [if_neg hi, if_neg hi]
    · rw [if_neg h6, if_neg h6, if_neg h7]
      unfold I64 at ha hb
      by_cases c1 : ((decide (a ≥ 0)) == (decide (b ≥ 0))) = true
      · rw [if_pos c1]
        simp only [beq_iff_eq, decide_eq_decide] at c1
        have hi : inI (a - b) = true := by unfold inI; rw [decide_eq_true_eq]; omega
        rw [if_pos hi, wrap64_inI _ hi]
      · rw [if_neg c1]
        simp only [beq_iff_eq, decide_eq_decide] at c1
        by_cases c2 : ((decide ((wrap64 (a - b)) ≥ 0)) == (decide (a ≥ 0))) = true
        · rw [if_pos c2]
          simp only [beq_iff_eq, decide_eq_decide] at c2
          have hi : inI (a - b) = true := by unfold inI; rw [decide_eq_true_eq]; unfold wrap64 at c2; omega
          rw [if_pos hi, wrap64_inI _ hi]
        · rw [if_neg c2]
          simp only [beq_iff_eq, decide_eq_decide] at c2
          have hi : ¬ inI (a - b) = true := by unfold inI; rw [decide_eq_true_eq]; unfold wrap64 at c2; omega
          rw [if_neg hi]
def decRes (n : Int) (s : Nat) : Int × Int × Int × ByteArray × Int :=
  if -1000000000000000 < (red n s).1 ∧ (red n s).1 < 1000000000000000 ∧ (red n s).2 ≤ 6 then (3, (red n s).1, ((red n s).2 : Int), (⟨#[]⟩ : ByteArray), 0) else (0, 0, 0, (⟨#[]⟩ : ByteArray), 10)
theorem right_red (n : Int) (s : Nat) : rightB 3 (red n s).1 ((red n s).2 : Int) (⟨#[]⟩ : ByteArray) = decide (-1000000000000000 < (red n s).1 ∧ (red n s).1 < 1000000000000000 ∧ (red n s).2 ≤ 6) := by
  unfold rightB
  rw [if_neg (by decide), if_neg (by decide), if_neg (by decide), if_pos rfl]
  have hn : noS (⟨#[]⟩ : ByteArray) = true := by decide +kernel
  rw [hn, Bool.and_true, decide_eq_decide]
  have h := red_done s n
  generalize (red n s).1 = a at *
  generalize (red n s).2 = b at *
  omega
theorem decRes_tens (n : Int) (j s : Nat) : decRes (n * p10 j) (s + j) = decRes n s := by unfold decRes; rw [red_tens]
theorem ref_end (k : Nat) (n : Int) (s : Nat) (hk : s + 45 < k) (hs : s ≤ 1000) (h0 : I64 n) :
    ((federationref1_Norm.f k 3 n (s : Int) (⟨#[]⟩ : ByteArray)).bind fun bt108 => ((federationref1_Right.f k bt108.1 bt108.2.1 bt108.2.2.1 bt108.2.2.2).bind fun t113 => (if t113 = true then (some (bt108.1, bt108.2.1, bt108.2.2.1, bt108.2.2.2, (0 : Int))) else (some (0, 0, 0, (⟨#[]⟩ : ByteArray), 10))))) = some (decRes n s) := by
  rw [ref_Norm_eq k s n _ (by omega) (by omega) h0.1 h0.2]
  simp only [Option.bind_some]
  rw [ref_Right_eq k _ _ _ _ (by omega), right_red]
  simp only [Option.bind_some, decide_eq_true_eq]
  unfold decRes
  split <;> rfl
theorem fine_j3 (k : Nat) (w f : Int) (s : Nat) (hk : 60 < k) (hs : s ≤ 6) (hf0 : 0 ≤ f) (hf1 : f < p10 s) (hz : s = 0 ∨ f % 10 ≠ 0) (hw0 : -4000000000000000 ≤ w) (hw1 : w ≤ 4000000000000000) : federationref1_fine.j3 k w f (s : Int) = some (decRes (w * p10 s + f) s) := by
  obtain ⟨k, rfl⟩ : ∃ m, k = m + 2 := ⟨k - 2, by omega⟩
  have hp := p10_pos s
  have hp2 : p10 s ≤ 1000000 := by have := p10_mono hs; rw [p10_six] at this; exact this
  have hs1 : s = 0 ∨ p10 s % 10 = 0 := by
    cases s with
    | zero => exact Or.inl rfl
    | succ t => right; rw [p10_succ]; omega
  have hwm : w * p10 s % 10 = 0 ∨ s = 0 := by
    rcases hs1 with h | h
    · exact Or.inr h
    · left; rw [Int.mul_emod, h]; simp
  have hr : red (w * p10 s + f) s = (w * p10 s + f, s) := by
    apply red_same
    rcases hz with h | h
    · exact Or.inl h
    · rcases hwm with h2 | h2
      · right; omega
      · exact Or.inl h2
  have hover : (1000000000000000 ≤ w * p10 s + f ∨ w * p10 s + f ≤ -1000000000000000) → decRes (w * p10 s + f) s = (0, 0, 0, (⟨#[]⟩ : ByteArray), 10) := by
    intro h; unfold decRes; rw [hr, if_neg (by omega)]
  have hstop : ∀ k', 0 < k' → federationref1_fine.j4 k' w f (s : Int) true = some (0, 0, 0, (⟨#[]⟩ : ByteArray), 10) := by
    intro k' hk'
    obtain ⟨k', rfl⟩ : ∃ m, k' = m + 1 := ⟨k' - 1, by omega⟩
    simp only [federationref1_fine.j4, if_true]
  have ha1 : 1000000000000000 ≤ w → 1000000000000000 ≤ w * p10 s := fun h => by
    have := Int.mul_le_mul_of_nonneg_left (show 1 ≤ p10 s by omega) (show 0 ≤ w by omega); omega
  have ha2 : w ≤ -1000000000000000 → w * p10 s + f ≤ -1000000000000000 := fun h => by
    have h3 := Int.mul_le_mul_of_nonneg_right (show w + 1 ≤ -999999999999999 by omega) (show 0 ≤ p10 s by omega)
    rw [Int.add_mul, Int.one_mul] at h3
    have h5 : p10 s = 1 → w * p10 s = w := fun e => by rw [e, Int.mul_one]
    by_cases h4 : p10 s = 1
    · have := h5 h4; omega
    · have : 2 ≤ p10 s := by omega
      omega
  simp only [federationref1_fine.j3]
  by_cases c1 : w ≤ -1000000000000000
  · rw [if_pos c1, hstop _ (by omega), hover (Or.inr (ha2 c1))]
  rw [if_neg c1]
  by_cases c2 : w ≥ 1000000000000000
  · rw [if_pos c2, hstop _ (by omega), hover (Or.inl (by have := ha1 c2; omega))]
  rw [if_neg c2, ref_Ten_eq _ s (by omega) (by omega)]
  simp only [Option.bind_some]
  rw [if_neg (by omega)]
  have hd : Int.tdiv 1000000000000000 (p10 s) = 1000000000000000 / p10 s := Int.tdiv_eq_ediv_of_nonneg (by decide)
  have hd1 := Int.mul_ediv_add_emod 1000000000000000 (p10 s)
  have hd2 := Int.emod_lt_of_pos 1000000000000000 hp
  have hd3 := Int.emod_nonneg 1000000000000000 (show p10 s ≠ 0 by omega)
  have hd4 : 0 ≤ 1000000000000000 / p10 s := Int.ediv_nonneg (by decide) (by omega)
  have hd5 : 1000000000000000 / p10 s ≤ 1000000000000000 := Int.ediv_le_self _ (by decide)
  rw [hd]
  generalize 1000000000000000 / p10 s = q at *
  rw [wrap64_of (x := q) (by omega) (by omega), wrap64_of (x := -q) (by omega) (by omega), wrap64_of (x := -q - 1) (by omega) (by omega)]
  by_cases c3 : w > q
  · rw [if_pos c3, hstop _ (by omega)]
    have h3 := Int.mul_le_mul_of_nonneg_right (show q + 1 ≤ w by omega) (show 0 ≤ p10 s by omega)
    rw [Int.add_mul, Int.one_mul, Int.mul_comm q] at h3
    rw [hover (Or.inl (by omega))]
  rw [if_neg c3, if_neg (show ¬ p10 s = 0 by omega)]
  by_cases c4 : w < -q - 1
  · rw [decide_eq_true c4, hstop _ (by omega)]
    have h3 := Int.mul_le_mul_of_nonneg_right (show w ≤ -q - 2 by omega) (show 0 ≤ p10 s by omega)
    rw [Int.sub_mul, Int.neg_mul, Int.mul_comm q] at h3
    rw [hover (Or.inr (by omega))]
  rw [decide_eq_false c4]
  simp only [federationref1_fine.j4, Bool.false_eq_true, if_false]
  rw [ref_Ten_eq _ s (by omega) (by omega)]
  simp only [Option.bind_some]
  have h5 : w * p10 s ≤ q * p10 s := Int.mul_le_mul_of_nonneg_right (by omega) (by omega)
  have h6 : (-q - 1) * p10 s ≤ w * p10 s := Int.mul_le_mul_of_nonneg_right (by omega) (by omega)
  rw [Int.sub_mul, Int.neg_mul, Int.one_mul, Int.mul_comm q] at h6
  rw [Int.mul_comm q] at h5
  rw [wrap64_of (x := w * p10 s) (by omega) (by omega), wrap64_of (x := w * p10 s + f) (by omega) (by omega)]
  exact ref_end k (w * p10 s + f) s (by omega) (by omega) ⟨by omega, by omega⟩
theorem fine_l2 : ∀ (s k : Nat) (w f : Int), 70 + s < k → s ≤ 6 → 0 ≤ f → f < p10 s → -4000000000000000 ≤ w → w ≤ 4000000000000000 → federationref1_fine.l2 k w f (s : Int) = some (decRes (w * p10 (red f s).2 + (red f s).1) (red f s).2)
  | 0, k, w, f, hk, hs, h0, h1, hw0, hw1 => by
    obtain ⟨k, rfl⟩ : ∃ m, k = m + 1 := ⟨k - 1, by omega⟩
    simp only [federationref1_fine.l2]; rw [if_neg (by omega)]
    exact fine_j3 k w f 0 (by omega) hs h0 h1 (Or.inl rfl) hw0 hw1
  | s + 1, k, w, f, hk, hs, h0, h1, hw0, hw1 => by
    obtain ⟨k, rfl⟩ : ∃ m, k = m + 1 := ⟨k - 1, by omega⟩
    have hp := p10_le s (by omega)
    have h1' := h1
    rw [p10_succ] at h1'
    simp only [federationref1_fine.l2]; rw [if_pos (by omega)]
    simp only [red]
    by_cases h : f % 10 = 0
    · rw [if_pos ((tmod10 f).2 h), if_pos h, tdiv10 f h, wrap64_of (by omega) (by omega), wrap64_of (by omega) (by omega), show ((s + 1 : Nat) : Int) - 1 = (s : Int) by omega]
      exact fine_l2 s k w (f / 10) (by omega) (by omega) (by omega) (by omega) hw0 hw1
    · rw [if_neg (fun e => h ((tmod10 f).1 e)), if_neg h]
      exact fine_j3 k w f (s + 1) (by omega) hs h0 h1 (Or.inr h) hw0 hw1
theorem decRes_parts (w f : Int) : decRes (w * p10 (red f 6).2 + (red f 6).1) (red f 6).2 = decRes (w * 1000000 + f) 6 := by
  have hv := red_value 6 f
  have hs := red_scale 6 f
  have e : w * 1000000 + f = (w * p10 (red f 6).2 + (red f 6).1) * p10 (6 - (red f 6).2) := by
    rw [Int.add_mul, hv, Int.mul_assoc, p10_six_sub _ hs]
  rw [e]
  have h6 : (6 : Nat) = (red f 6).2 + (6 - (red f 6).2) := by omega
  have := decRes_tens (w * p10 (red f 6).2 + (red f 6).1) (6 - (red f 6).2) (red f 6).2
  rw [← h6] at this
  exact this.symm
theorem fine_l1 (k : Nat) (w f : Int) (hk : 90 < k) (h0 : 0 ≤ f) (h1 : f < 2000000) (hw0 : -3000000000000000 ≤ w) (hw1 : w ≤ 3000000000000000) : federationref1_fine.l1 k w f = some (decRes (w * 1000000 + f) 6) := by
  obtain ⟨k, rfl⟩ : ∃ m, k = m + 2 := ⟨k - 2, by omega⟩
  have e6 : ∀ k', 18 < k' → federationref1_Ten.f k' 6 = some 1000000 := fun k' h => by
    have := ref_Ten_eq k' 6 h (by omega); rw [p10_six] at this; exact this
  simp only [federationref1_fine.l1]
  rw [e6 _ (by omega)]
  simp only [Option.bind_some]
  by_cases c : f ≥ 1000000
  · rw [if_pos c, e6 _ (by omega)]
    simp only [Option.bind_some]
    rw [wrap64_of (x := w + 1) (by omega) (by omega), wrap64_of (x := f - 1000000) (by omega) (by omega), if_neg (by omega)]
    have := fine_l2 6 k (w + 1) (f - 1000000) (by omega) (by omega) (by omega) (by rw [p10_six]; omega) (by omega) (by omega)
    rw [show ((6 : Nat) : Int) = 6 from rfl] at this
    rw [this, decRes_parts, show (w + 1) * 1000000 + (f - 1000000) = w * 1000000 + f by omega]
  · rw [if_neg c]
    have := fine_l2 6 (k + 1) w f (by omega) (by omega) (by omega) (by rw [p10_six]; omega) (by omega) (by omega)
    rw [show ((6 : Nat) : Int) = 6 from rfl] at this
    rw [this, decRes_parts]
theorem ref_fine_eq (k : Nat) (w f : Int) (hk : 95 < k) (h0 : -1000000 < f) (h1 : f < 2000000) (hw0 : -2500000000000000 ≤ w) (hw1 : w ≤ 2500000000000000) : federationref1_fine.f k w f = some (decRes (w * 1000000 + f) 6) := by
  obtain ⟨k, rfl⟩ : ∃ m, k = m + 2 := ⟨k - 2, by omega⟩
  have e6 : ∀ k', 18 < k' → federationref1_Ten.f k' 6 = some 1000000 := fun k' h => by
    have := ref_Ten_eq k' 6 h (by omega); rw [p10_six] at this; exact this
  unfold federationref1_fine.f
  simp only [federationref1_fine.l0]
  by_cases c : f < 0
  · rw [if_pos c, e6 _ (by omega)]
    simp only [Option.bind_some]
    rw [wrap64_of (x := w - 1) (by omega) (by omega), wrap64_of (x := f + 1000000) (by omega) (by omega), if_neg (by omega), fine_l1 _ _ _ (by omega) (by omega) (by omega) (by omega) (by omega), show (w - 1) * 1000000 + (f + 1000000) = w * 1000000 + f by omega]
  · rw [if_neg c, fine_l1 _ _ _ (by omega) (by omega) (by omega) (by omega) (by omega)]
end Go.Proofs.Ytjacflmgbmfhcaa.D
namespace Go.Proofs.Ytjacflmgbmfhcaa.D
open Go.RowKit Go.Proofs.YtjacflmgbmfhcaaW.PrintWords Go.Proofs.YtjacflmgbmfhcaaW.PrintLast Go.Proofs.YtjacflmgbmfhcaaW.PrintMore
attribute [local go_sem] max2_int min2_int max_two min_two max_three min_three max_four min_four
attribute [local go_sem high] own_gtr own_leq own_geq own_cell_set Option.map_some
set_option linter.unusedVariables false
set_option linter.unusedSimpArgs false
def overR : Int × Int × Int × ByteArray × Int := (0, 0, 0, (⟨#[]⟩ : ByteArray), 10)
def typeR : Int × Int × Int × ByteArray × Int := (0, 0, 0, (⟨#[]⟩ : ByteArray), 5)
def nullR : Int × Int × Int × ByteArray × Int := (0, 0, 0, (⟨#[]⟩ : ByteArray), 0)
def sgn (op : Int) : Int := if op = 7 then 1 else -1
def decsRes (op n1 : Int) (s1 : Nat) (n2 : Int) (s2 : Nat) : Int × Int × Int × ByteArray × Int :=
  if op = 6 then (if inI (n1 * n2) = true then decRes (n1 * n2) (s1 + s2) else overR) else decRes (n1 * p10 (6 - s1) + sgn op * (n2 * p10 (6 - s2))) 6
structure RD (n : Int) (s : Nat) : Prop where
  lo : -1000000000000000 < n
  hi : n < 1000000000000000
  sc : s ≤ 6
  nm : s = 0 ∨ n % 10 ≠ 0
theorem ediv_small {n p : Int} (hp : 0 < p) (h0 : -1000000000000000 < n) (h1 : n < 1000000000000000) : -1000000000000000 ≤ n / p ∧ n / p ≤ 1000000000000000 := by
  have e := Int.mul_ediv_add_emod n p
  have e1 := Int.emod_lt_of_pos n hp
  have e2 := Int.emod_nonneg n (show p ≠ 0 by omega)
  have e3 := Int.natAbs_ediv_le_natAbs n p
  omega
theorem ref_decs_mul (k : Nat) (n1 : Int) (s1 : Nat) (t1 : ByteArray) (n2 : Int) (s2 : Nat) (t2 : ByteArray) (k1 k2 : Int) (hk : 95 < k) (h1 : RD n1 s1) (h2 : RD n2 s2) :
    federationref1_decs.f k 6 k1 n1 (s1 : Int) t1 k2 n2 (s2 : Int) t2 = some (decsRes 6 n1 s1 n2 s2) := by
  have b1 := h1.lo; have b2 := h1.hi; have b3 := h1.sc
  have c1 := h2.lo; have c2 := h2.hi; have c3 := h2.sc
  unfold federationref1_decs.f decsRes
  rw [if_pos rfl, if_pos rfl, ref_times_eq n1 n2 ⟨by omega, by omega⟩ ⟨by omega, by omega⟩, Option.bind_some]
  dsimp only
  rw [wrap64_of (x := (s1 : Int) + (s2 : Int)) (by omega) (by omega), show (s1 : Int) + (s2 : Int) = ((s1 + s2 : Nat) : Int) by omega]
  have hw : I64 (wrap64 (n1 * n2)) := by unfold I64 wrap64; omega
  cases hi : inI (n1 * n2) with
  | false =>
    rw [ref_Norm_eq k (s1 + s2) _ _ (by omega) (by omega) hw.1 hw.2, Option.bind_some, if_neg (by decide), if_neg (by decide)]
    rfl
  | true =>
    have := ref_end k (wrap64 (n1 * n2)) (s1 + s2) (by omega) (by omega) hw
    simp only [if_true]
    rw [this, wrap64_inI _ hi]
theorem eta5 (p : Int × Int × Int × ByteArray × Int) : some (p.1, p.2.1, p.2.2.1, p.2.2.2.1, p.2.2.2.2) = some p := rfl
theorem ref_decs_add (k : Nat) (op n1 : Int) (s1 : Nat) (t1 : ByteArray) (n2 : Int) (s2 : Nat) (t2 : ByteArray) (k1 k2 : Int) (hk : 95 < k) (h1 : RD n1 s1) (h2 : RD n2 s2) (h6 : ¬ op = 6) :
    federationref1_decs.f k op k1 n1 (s1 : Int) t1 k2 n2 (s2 : Int) t2 = some (decsRes op n1 s1 n2 s2) := by
  have b1 := h1.lo; have b2 := h1.hi; have b3 := h1.sc
  have c1 := h2.lo; have c2 := h2.hi; have c3 := h2.sc
  have g1 := ediv_small (p10_pos s1) b1 b2
  have g2 := ediv_small (p10_pos s2) c1 c2
  have f1 := mic_ediv n1 s1 b3
  have f2 := mic_ediv n2 s2 c3
  have f3 := mic_emod n1 s1 b3
  have f4 := mic_emod n2 s2 c3
  have hP1 := ref_Parts_eq k k1 n1 s1 t1 (by omega) b3 b1 b2
  have hP2 := ref_Parts_eq k k2 n2 s2 t2 (by omega) c3 c1 c2
  rw [← f1, ← f3] at hP1
  rw [← f2, ← f4] at hP2
  rw [← f1] at g1
  rw [← f2] at g2
  clear f1 f2 f3 f4
  unfold federationref1_decs.f decsRes sgn
  rw [if_neg h6, if_neg h6, hP1, hP2, Option.bind_some, Option.bind_some]
  dsimp only
  clear hP1 hP2
  generalize n1 * p10 (6 - s1) = x at *
  generalize n2 * p10 (6 - s2) = y at *
  have q1 := Int.emod_lt_of_pos x (show (0 : Int) < 1000000 by decide)
  have q2 := Int.emod_lt_of_pos y (show (0 : Int) < 1000000 by decide)
  have q3 := Int.emod_nonneg x (show (1000000 : Int) ≠ 0 by decide)
  have q4 := Int.emod_nonneg y (show (1000000 : Int) ≠ 0 by decide)
  have e1 := Int.mul_ediv_add_emod x 1000000
  have e2 := Int.mul_ediv_add_emod y 1000000
  generalize x / 1000000 = u at *
  generalize y / 1000000 = v at *
  generalize x % 1000000 = c at *
  generalize y % 1000000 = d at *
  by_cases h7 : op = 7
  · rw [if_pos h7, if_pos h7, wrap64_of (x := u + v) (by omega) (by omega), wrap64_of (x := c + d) (by omega) (by omega)]
    have e : (u + v) * 1000000 + (c + d) = x + 1 * y := by omega
    rw [ref_fine_eq k _ _ (by omega) (by omega) (by omega) (by omega) (by omega), e, Option.bind_some, eta5]
  · rw [if_neg h7, if_neg h7, wrap64_of (x := u - v) (by omega) (by omega), wrap64_of (x := c - d) (by omega) (by omega)]
    have e : (u - v) * 1000000 + (c - d) = x + -1 * y := by omega
    rw [ref_fine_eq k _ _ (by omega) (by omega) (by omega) (by omega) (by omega), e, Option.bind_some, eta5]
theorem ref_decs_eq (k : Nat) (op n1 : Int) (s1 : Nat) (t1 : ByteArray) (n2 : Int) (s2 : Nat) (t2 : ByteArray) (k1 k2 : Int) (hk : 95 < k) (h1 : RD n1 s1) (h2 : RD n2 s2) :
    federationref1_decs.f k op k1 n1 (s1 : Int) t1 k2 n2 (s2 : Int) t2 = some (decsRes op n1 s1 n2 s2) := by
  by_cases h6 : op = 6
  · subst h6; exact ref_decs_mul k n1 s1 t1 n2 s2 t2 k1 k2 hk h1 h2
  · exact ref_decs_add k op n1 s1 t1 n2 s2 t2 k1 k2 hk h1 h2 h6
def num (kd : Int) : Bool := kd == 0 || kd == 2 || kd == 3
def reckRes (op k1 n1 : Int) (s1 : Nat) (k2 n2 : Int) (s2 : Nat) : Int × Int × Int × ByteArray × Int :=
  if (op = 6 ∨ op = 7 ∨ op = 8) ∧ num k1 = true ∧ num k2 = true then
    (if k1 = 0 ∨ k2 = 0 then nullR else if k1 = k2 then (if k1 = 2 then intRes op n1 n2 else decsRes op n1 s1 n2 s2) else typeR)
  else typeR
structure RV (kd n : Int) (s : Nat) : Prop where
  i : I64 n
  d : kd = 3 → RD n s
theorem ref_Reckon_j0 (k : Nat) (op k1 n1 : Int) (s1 : Nat) (t1 : ByteArray) (k2 n2 : Int) (s2 : Nat) (t2 : ByteArray) (hk : 100 < k) (h1 : RV k1 n1 s1) (h2 : RV k2 n2 s2) :
    federationref1_Reckon.j0 k op k1 n1 (s1 : Int) t1 k2 n2 (s2 : Int) t2 = some (reckRes op k1 n1 s1 k2 n2 s2) := by
  obtain ⟨k, rfl⟩ : ∃ m, k = m + 3 := ⟨k - 3, by omega⟩
  have hn : ∀ kd n s t, federationref1_number.f kd n s t = some (num kd) := fun kd n s t => by
    unfold federationref1_number.f num
    by_cases a : kd = 0
    · rw [if_pos a]; simp [a]
    · rw [if_neg a]
      by_cases b : kd = 2
      · rw [if_pos b]; simp [b]
      · rw [if_neg b]; simp [a, b]
  have tail : num k1 = true → num k2 = true → federationref1_Reckon.j1 (k + 2) op false k1 n1 (s1 : Int) t1 k2 n2 (s2 : Int) t2 = some (if k1 = 0 ∨ k2 = 0 then nullR else if k1 = k2 then (if k1 = 2 then intRes op n1 n2 else decsRes op n1 s1 n2 s2) else typeR) := by
    intro hn1 hn2
    simp only [federationref1_Reckon.j1, Bool.false_eq_true, if_false]
    by_cases z1 : k1 = 0
    · rw [if_pos z1, if_pos (Or.inl z1)]; simp only [federationref1_Reckon.j2, if_true]; rfl
    · rw [if_neg z1]
      simp only [federationref1_Reckon.j2]
      by_cases z2 : k2 = 0
      · rw [if_pos (by simpa using z2), if_pos (Or.inr z2)]; rfl
      · rw [if_neg (by simpa using z2), if_neg (show ¬(k1 = 0 ∨ k2 = 0) by omega)]
        by_cases e : k1 = k2
        · rw [if_pos e, if_pos e]
          by_cases e2 : k1 = 2
          · rw [if_pos e2, if_pos e2, ref_ints_eq op n1 n2 h1.i h2.i]; rfl
          · rw [if_neg e2, if_neg e2]
            have e3 : k1 = 3 := by unfold num at hn1; simp at hn1; omega
            rw [ref_decs_eq k op n1 s1 t1 n2 s2 t2 k1 k2 (by omega) (h1.d e3) (h2.d (by omega))]
            rfl
        · rw [if_neg e, if_neg e]; rfl
  have stop : federationref1_Reckon.j1 (k + 2) op true k1 n1 (s1 : Int) t1 k2 n2 (s2 : Int) t2 = some typeR := by simp only [federationref1_Reckon.j1, if_true]; rfl
  simp only [federationref1_Reckon.j0, hn, Option.bind_some]
  unfold reckRes
  have both : (if num k1 = true then federationref1_Reckon.j1 (k + 2) op (!num k2) k1 n1 (s1 : Int) t1 k2 n2 (s2 : Int) t2 else federationref1_Reckon.j1 (k + 2) op true k1 n1 (s1 : Int) t1 k2 n2 (s2 : Int) t2) = some (if num k1 = true ∧ num k2 = true then (if k1 = 0 ∨ k2 = 0 then nullR else if k1 = k2 then (if k1 = 2 then intRes op n1 n2 else decsRes op n1 s1 n2 s2) else typeR) else typeR) := by
    cases a1 : num k1 with
    | false => simp [stop]
    | true =>
      cases a2 : num k2 with
      | false => simp [stop]
      | true =>
        simp only [if_true, Bool.not_true, and_self]
        exact tail a1 a2
  by_cases c6 : op = 6
  · rw [if_pos c6, both]; simp [c6]
  · rw [if_neg c6]
    by_cases c7 : op = 7
    · rw [if_pos c7, both]; simp [c7]
    · rw [if_neg c7]
      by_cases c8 : op = 8
      · rw [if_pos c8, both]; simp [c8]
      · rw [if_neg c8, stop]; simp [c6, c7, c8]
def reckB (op k1 n1 : Int) (s1 : Nat) (k2 n2 : Int) (s2 : Nat) : Int × Int × Int × ByteArray × Int :=
  if op = 4 then reckRes 8 k1 0 0 k1 n1 s1 else reckRes op k1 n1 s1 k2 n2 s2
theorem RV_zero (kd : Int) : RV kd 0 0 := ⟨⟨by decide, by decide⟩, fun _ => ⟨by decide, by decide, by decide, Or.inl rfl⟩⟩
theorem ref_Reckon_eq (k : Nat) (op k1 n1 : Int) (s1 : Nat) (t1 : ByteArray) (k2 n2 : Int) (s2 : Nat) (t2 : ByteArray) (hk : 100 < k) (h1 : RV k1 n1 s1) (h2 : RV k2 n2 s2) :
    federationref1_Reckon.f k op k1 n1 (s1 : Int) t1 k2 n2 (s2 : Int) t2 = some (reckB op k1 n1 s1 k2 n2 s2) := by
  unfold federationref1_Reckon.f reckB
  by_cases c : op = 4
  · rw [if_pos c, if_pos c]
    by_cases a : k1 = 2
    · rw [if_pos a]; exact ref_Reckon_j0 k 8 k1 0 0 _ k1 n1 s1 t1 hk (RV_zero k1) h1
    rw [if_neg a]
    by_cases b : k1 = 3
    · rw [if_pos b]; exact ref_Reckon_j0 k 8 k1 0 0 _ k1 n1 s1 t1 hk (RV_zero k1) h1
    rw [if_neg b]
    rw [ref_Reckon_j0 k 8 k1 n1 s1 t1 k1 n1 s1 t1 hk h1 h1]
    unfold reckRes
    by_cases z : k1 = 0
    · subst z; simp [num]
    · have : num k1 = false := by unfold num; simp [a, b, z]
      simp [this]
  · rw [if_neg c, if_neg c]
    exact ref_Reckon_j0 k op k1 n1 s1 t1 k2 n2 s2 t2 hk h1 h2
end Go.Proofs.Ytjacflmgbmfhcaa.D
