-- Written by drive.py and pack.py (programs of this proof's own) through the kit's printer; not trusted: Lean checks it.
import Derived.Test.YtjacflmgbmfhcaaCKeyInts1
import Derived.Test.YtjacflmgbmfhcaaCKeyInts7
import Derived.Test.YtjacflmgbmfhcaaCKeyInts2
import Derived.Test.YtjacflmgbmfhcaaCKeyInts8
import Derived.Test.YtjacflmgbmfhcaaCKeyInts3
import Derived.Test.YtjacflmgbmfhcaaCKeyInts5
import Derived.Test.YtjacflmgbmfhcaaCKeyInts4
import Derived.Lib.Strings
namespace Go.Proofs.Ytjacflmgbmfhcaa.K
open Go.RowKit Go.Proofs.YtjacflmgbmfhcaaW.PrintWords Go.Proofs.YtjacflmgbmfhcaaW.PrintLast Go.Proofs.YtjacflmgbmfhcaaW.PrintMore
attribute [local go_sem] max2_int min2_int max_two min_two max_three min_three max_four min_four
attribute [local go_sem high] own_gtr own_leq own_geq own_cell_set Option.map_some fld24_3
set_option linter.unusedVariables false
set_option linter.unusedSimpArgs false
def federationlaw2_KeyInts.f (k : Nat) (a0 : Int) (a1 : Int) (a2 : Int) (a3 : Int) : Option (Bool) := (federationlaw2_known.f k).bind fun t101 => (if t101 = true then ((federationlaw2_within.f a2 2000001).bind fun t104 => ((federationlaw2_within.f a3 7).bind fun t105 => ((federationref1_Norm.f k 3 (wrap64 (t104 - 1000000)) t105 (⟨#[]⟩ : ByteArray)).bind fun bt106 => ((federationlaw2_within.f a0 2001).bind fun t111 => ((federationlaw2_within.f (wrap64 (Int.tdiv a3 7)) 4).bind fun t112 => ((federationref1_Norm.f k 3 (wrap64 (t111 - 1000)) t112 (⟨#[]⟩ : ByteArray)).bind fun bt113 => ((key_Key.f k 2 a0 0 (⟨#[]⟩ : ByteArray)).bind fun t118 => ((key_Key.f k 2 a1 0 (⟨#[]⟩ : ByteArray)).bind fun t119 => (if ((Op.bytesLess t118.toList t119.toList) == (decide (a0 < a1))) = true then ((key_Key.f k 2 a0 0 (⟨#[]⟩ : ByteArray)).bind fun t120 => (if (t120.size : Int) = 9 then ((key_Key.f k bt106.1 bt106.2.1 bt106.2.2.1 bt106.2.2.2).bind fun t121 => (if (t121.size : Int) = 13 then ((key_Key.f k bt106.1 bt106.2.1 bt106.2.2.1 bt106.2.2.2).bind fun t122 => ((key_Key.f k bt113.1 bt113.2.1 bt113.2.2.1 bt113.2.2.2).bind fun t123 => ((federationref1_Order.f k bt106.1 bt106.2.1 bt106.2.2.1 bt106.2.2.2 bt113.1 bt113.2.1 bt113.2.2.1 bt113.2.2.2).bind fun t124 => (some ((Op.bytesLess t122.toList t123.toList) == (decide (t124 < 0))))))) else (none))) else (none))) else (none)))))))))) else (none))
def federationlaw2_KeyInts.T6 : Bool × List (List Nat × List Nat) := (true, [([], []), ([0], [0]), ([], []), ([2, 1], [2]), ([1, 3], [1, 3]), ([], []), ([], []), ([5, 6], [5, 6]), ([4, 7], [4, 7]), ([8, 3], [8]), ([9], [9]), ([10, 9, 9], [9, 10]), ([11, 9], [9, 11]), ([12, 9], [9, 12]), ([9, 13], [9, 13]), ([14, 11], [14]), ([15], [15]), ([16, 15, 15], [15, 16]), ([17, 15], [15, 17]), ([18, 15], [15, 18]), ([15, 19], [15, 19]), ([20, 17], [20]), ([21], [21]), ([22, 21, 21], [21, 22]), ([21], [21]), ([24, 23, 21], [21, 24]), ([23, 25, 21], [21, 23, 25]), ([21], [21]), ([21], [21]), ([27, 28, 25, 21], [21, 27, 28]), ([29, 21], [21, 29]), ([26, 30, 21], [21, 26, 30]), ([21, 31], [21, 31]), ([32, 29, 0, 1, 2, 3, 4, 5, 6, 7, 8, 9, 10, 11, 12, 13, 14, 15, 16, 17, 18, 19, 20, 21, 22, 23, 24, 25, 26, 27, 28, 29, 30, 31, 32], [32])])
def federationlaw2_KeyInts.B6 : List Nat := [0, 1, 0, 7, 15, 0, 0, 96, 255, 511, 1023, 2047, 4095, 8191, 16383, 32767, 65535, 131071, 262143, 524287, 1048575, 2097151, 4194303, 8388607, 4194303, 33554431, 67108863, 4194303, 4194303, 469762047, 1006632959, 2147483647, 4294967295, 8589934591]
theorem federationlaw2_KeyInts.tab6 : rtab .any (opsOf Try.f6 6) = federationlaw2_KeyInts.T6 := by kernel_rfl
theorem federationlaw2_KeyInts.bits6 : waitsOk federationlaw2_KeyInts.T6.2 federationlaw2_KeyInts.B6 = true := by kernel_rfl
set_option maxHeartbeats 8000000 in
set_option maxRecDepth 100000 in
theorem federationlaw2_KeyInts.calls (k : Nat) (a0 : Int) (a1 : Int) (a2 : Int) (a3 : Int) (r : Bool) (w : World) (h : federationlaw2_KeyInts.f k a0 a1 a2 a3 = some r) :
    Calls Try.prog 6 #[.int .i64 a0, .int .i64 a1, .int .i64 a2, .int .i64 a3] w fun e w' => e = .returned (.bool r) ∧ Below w.heap.size w w' := by
  have hu24 := Try.underlying24
  have HB := Aside0.mk (Below.refl w.heap.size w)
  have H : ((federationlaw2_known.f k).bind fun t101 => (if t101 = true then ((federationlaw2_within.f a2 2000001).bind fun t104 => ((federationlaw2_within.f a3 7).bind fun t105 => ((federationref1_Norm.f k 3 (wrap64 (t104 - 1000000)) t105 (⟨#[]⟩ : ByteArray)).bind fun bt106 => ((federationlaw2_within.f a0 2001).bind fun t111 => ((federationlaw2_within.f (wrap64 (Int.tdiv a3 7)) 4).bind fun t112 => ((federationref1_Norm.f k 3 (wrap64 (t111 - 1000)) t112 (⟨#[]⟩ : ByteArray)).bind fun bt113 => ((key_Key.f k 2 a0 0 (⟨#[]⟩ : ByteArray)).bind fun t118 => ((key_Key.f k 2 a1 0 (⟨#[]⟩ : ByteArray)).bind fun t119 => (if ((Op.bytesLess t118.toList t119.toList) == (decide (a0 < a1))) = true then ((key_Key.f k 2 a0 0 (⟨#[]⟩ : ByteArray)).bind fun t120 => (if (t120.size : Int) = 9 then ((key_Key.f k bt106.1 bt106.2.1 bt106.2.2.1 bt106.2.2.2).bind fun t121 => (if (t121.size : Int) = 13 then ((key_Key.f k bt106.1 bt106.2.1 bt106.2.2.1 bt106.2.2.2).bind fun t122 => ((key_Key.f k bt113.1 bt113.2.1 bt113.2.2.1 bt113.2.2.2).bind fun t123 => ((federationref1_Order.f k bt106.1 bt106.2.1 bt106.2.2.1 bt106.2.2.2 bt113.1 bt113.2.1 bt113.2.2.1 bt113.2.2.2).bind fun t124 => (some ((Op.bytesLess t122.toList t123.toList) == (decide (t124 < 0))))))) else (none))) else (none))) else (none)))))))))) else (none))) = some r := h
  clear h
  replace H := Option.bind_eq_some_iff.mp H
  obtain ⟨t101, A50, H⟩ := H
  replace H : (if t101 = true then ((federationlaw2_within.f a2 2000001).bind fun t104 => ((federationlaw2_within.f a3 7).bind fun t105 => ((federationref1_Norm.f k 3 (wrap64 (t104 - 1000000)) t105 (⟨#[]⟩ : ByteArray)).bind fun bt106 => ((federationlaw2_within.f a0 2001).bind fun t111 => ((federationlaw2_within.f (wrap64 (Int.tdiv a3 7)) 4).bind fun t112 => ((federationref1_Norm.f k 3 (wrap64 (t111 - 1000)) t112 (⟨#[]⟩ : ByteArray)).bind fun bt113 => ((key_Key.f k 2 a0 0 (⟨#[]⟩ : ByteArray)).bind fun t118 => ((key_Key.f k 2 a1 0 (⟨#[]⟩ : ByteArray)).bind fun t119 => (if ((Op.bytesLess t118.toList t119.toList) == (decide (a0 < a1))) = true then ((key_Key.f k 2 a0 0 (⟨#[]⟩ : ByteArray)).bind fun t120 => (if (t120.size : Int) = 9 then ((key_Key.f k bt106.1 bt106.2.1 bt106.2.2.1 bt106.2.2.2).bind fun t121 => (if (t121.size : Int) = 13 then ((key_Key.f k bt106.1 bt106.2.1 bt106.2.2.1 bt106.2.2.2).bind fun t122 => ((key_Key.f k bt113.1 bt113.2.1 bt113.2.2.1 bt113.2.2.2).bind fun t123 => ((federationref1_Order.f k bt106.1 bt106.2.1 bt106.2.2.1 bt106.2.2.2 bt113.1 bt113.2.1 bt113.2.2.1 bt113.2.2.2).bind fun t124 => (some ((Op.bytesLess t122.toList t123.toList) == (decide (t124 < 0))))))) else (none))) else (none))) else (none)))))))))) else (none)) = some r := H
  have A5 := Aside0.mk A50
  clear A50
  by_cases c6 : t101 = true
  · subst c6
    have H1 : ((federationlaw2_within.f a2 2000001).bind fun t104 => ((federationlaw2_within.f a3 7).bind fun t105 => ((federationref1_Norm.f k 3 (wrap64 (t104 - 1000000)) t105 (⟨#[]⟩ : ByteArray)).bind fun bt106 => ((federationlaw2_within.f a0 2001).bind fun t111 => ((federationlaw2_within.f (wrap64 (Int.tdiv a3 7)) 4).bind fun t112 => ((federationref1_Norm.f k 3 (wrap64 (t111 - 1000)) t112 (⟨#[]⟩ : ByteArray)).bind fun bt113 => ((key_Key.f k 2 a0 0 (⟨#[]⟩ : ByteArray)).bind fun t118 => ((key_Key.f k 2 a1 0 (⟨#[]⟩ : ByteArray)).bind fun t119 => (if ((Op.bytesLess t118.toList t119.toList) == (decide (a0 < a1))) = true then ((key_Key.f k 2 a0 0 (⟨#[]⟩ : ByteArray)).bind fun t120 => (if (t120.size : Int) = 9 then ((key_Key.f k bt106.1 bt106.2.1 bt106.2.2.1 bt106.2.2.2).bind fun t121 => (if (t121.size : Int) = 13 then ((key_Key.f k bt106.1 bt106.2.1 bt106.2.2.1 bt106.2.2.2).bind fun t122 => ((key_Key.f k bt113.1 bt113.2.1 bt113.2.2.1 bt113.2.2.2).bind fun t123 => ((federationref1_Order.f k bt106.1 bt106.2.1 bt106.2.2.1 bt106.2.2.2 bt113.1 bt113.2.1 bt113.2.2.1 bt113.2.2.2).bind fun t124 => (some ((Op.bytesLess t122.toList t123.toList) == (decide (t124 < 0))))))) else (none))) else (none))) else (none)))))))))) = some r := by rw [if_pos rfl] at H; exact H
    clear H
    have H := H1
    clear H1
    replace H := Option.bind_eq_some_iff.mp H
    obtain ⟨t104, A70, H⟩ := H
    replace H : ((federationlaw2_within.f a3 7).bind fun t105 => ((federationref1_Norm.f k 3 (wrap64 (t104 - 1000000)) t105 (⟨#[]⟩ : ByteArray)).bind fun bt106 => ((federationlaw2_within.f a0 2001).bind fun t111 => ((federationlaw2_within.f (wrap64 (Int.tdiv a3 7)) 4).bind fun t112 => ((federationref1_Norm.f k 3 (wrap64 (t111 - 1000)) t112 (⟨#[]⟩ : ByteArray)).bind fun bt113 => ((key_Key.f k 2 a0 0 (⟨#[]⟩ : ByteArray)).bind fun t118 => ((key_Key.f k 2 a1 0 (⟨#[]⟩ : ByteArray)).bind fun t119 => (if ((Op.bytesLess t118.toList t119.toList) == (decide (a0 < a1))) = true then ((key_Key.f k 2 a0 0 (⟨#[]⟩ : ByteArray)).bind fun t120 => (if (t120.size : Int) = 9 then ((key_Key.f k bt106.1 bt106.2.1 bt106.2.2.1 bt106.2.2.2).bind fun t121 => (if (t121.size : Int) = 13 then ((key_Key.f k bt106.1 bt106.2.1 bt106.2.2.1 bt106.2.2.2).bind fun t122 => ((key_Key.f k bt113.1 bt113.2.1 bt113.2.2.1 bt113.2.2.2).bind fun t123 => ((federationref1_Order.f k bt106.1 bt106.2.1 bt106.2.2.1 bt106.2.2.2 bt113.1 bt113.2.1 bt113.2.2.1 bt113.2.2.2).bind fun t124 => (some ((Op.bytesLess t122.toList t123.toList) == (decide (t124 < 0))))))) else (none))) else (none))) else (none))))))))) = some r := H
    have A7 := Aside0.mk A70
    clear A70
    replace H := Option.bind_eq_some_iff.mp H
    obtain ⟨t105, A80, H⟩ := H
    replace H : ((federationref1_Norm.f k 3 (wrap64 (t104 - 1000000)) t105 (⟨#[]⟩ : ByteArray)).bind fun bt106 => ((federationlaw2_within.f a0 2001).bind fun t111 => ((federationlaw2_within.f (wrap64 (Int.tdiv a3 7)) 4).bind fun t112 => ((federationref1_Norm.f k 3 (wrap64 (t111 - 1000)) t112 (⟨#[]⟩ : ByteArray)).bind fun bt113 => ((key_Key.f k 2 a0 0 (⟨#[]⟩ : ByteArray)).bind fun t118 => ((key_Key.f k 2 a1 0 (⟨#[]⟩ : ByteArray)).bind fun t119 => (if ((Op.bytesLess t118.toList t119.toList) == (decide (a0 < a1))) = true then ((key_Key.f k 2 a0 0 (⟨#[]⟩ : ByteArray)).bind fun t120 => (if (t120.size : Int) = 9 then ((key_Key.f k bt106.1 bt106.2.1 bt106.2.2.1 bt106.2.2.2).bind fun t121 => (if (t121.size : Int) = 13 then ((key_Key.f k bt106.1 bt106.2.1 bt106.2.2.1 bt106.2.2.2).bind fun t122 => ((key_Key.f k bt113.1 bt113.2.1 bt113.2.2.1 bt113.2.2.2).bind fun t123 => ((federationref1_Order.f k bt106.1 bt106.2.1 bt106.2.2.1 bt106.2.2.2 bt113.1 bt113.2.1 bt113.2.2.1 bt113.2.2.2).bind fun t124 => (some ((Op.bytesLess t122.toList t123.toList) == (decide (t124 < 0))))))) else (none))) else (none))) else (none)))))))) = some r := H
    have A8 := Aside0.mk A80
    clear A80
    replace H := Option.bind_eq_some_iff.mp H
    obtain ⟨⟨t106, t107, t108, t109⟩, A90, H⟩ := H
    replace H : ((federationlaw2_within.f a0 2001).bind fun t111 => ((federationlaw2_within.f (wrap64 (Int.tdiv a3 7)) 4).bind fun t112 => ((federationref1_Norm.f k 3 (wrap64 (t111 - 1000)) t112 (⟨#[]⟩ : ByteArray)).bind fun bt113 => ((key_Key.f k 2 a0 0 (⟨#[]⟩ : ByteArray)).bind fun t118 => ((key_Key.f k 2 a1 0 (⟨#[]⟩ : ByteArray)).bind fun t119 => (if ((Op.bytesLess t118.toList t119.toList) == (decide (a0 < a1))) = true then ((key_Key.f k 2 a0 0 (⟨#[]⟩ : ByteArray)).bind fun t120 => (if (t120.size : Int) = 9 then ((key_Key.f k t106 t107 t108 t109).bind fun t121 => (if (t121.size : Int) = 13 then ((key_Key.f k t106 t107 t108 t109).bind fun t122 => ((key_Key.f k bt113.1 bt113.2.1 bt113.2.2.1 bt113.2.2.2).bind fun t123 => ((federationref1_Order.f k t106 t107 t108 t109 bt113.1 bt113.2.1 bt113.2.2.1 bt113.2.2.2).bind fun t124 => (some ((Op.bytesLess t122.toList t123.toList) == (decide (t124 < 0))))))) else (none))) else (none))) else (none))))))) = some r := H
    have A9 := Aside0.mk A90
    clear A90
    replace H := Option.bind_eq_some_iff.mp H
    obtain ⟨t111, A100, H⟩ := H
    replace H : ((federationlaw2_within.f (wrap64 (Int.tdiv a3 7)) 4).bind fun t112 => ((federationref1_Norm.f k 3 (wrap64 (t111 - 1000)) t112 (⟨#[]⟩ : ByteArray)).bind fun bt113 => ((key_Key.f k 2 a0 0 (⟨#[]⟩ : ByteArray)).bind fun t118 => ((key_Key.f k 2 a1 0 (⟨#[]⟩ : ByteArray)).bind fun t119 => (if ((Op.bytesLess t118.toList t119.toList) == (decide (a0 < a1))) = true then ((key_Key.f k 2 a0 0 (⟨#[]⟩ : ByteArray)).bind fun t120 => (if (t120.size : Int) = 9 then ((key_Key.f k t106 t107 t108 t109).bind fun t121 => (if (t121.size : Int) = 13 then ((key_Key.f k t106 t107 t108 t109).bind fun t122 => ((key_Key.f k bt113.1 bt113.2.1 bt113.2.2.1 bt113.2.2.2).bind fun t123 => ((federationref1_Order.f k t106 t107 t108 t109 bt113.1 bt113.2.1 bt113.2.2.1 bt113.2.2.2).bind fun t124 => (some ((Op.bytesLess t122.toList t123.toList) == (decide (t124 < 0))))))) else (none))) else (none))) else (none)))))) = some r := H
    have A10 := Aside0.mk A100
    clear A100
    replace H := Option.bind_eq_some_iff.mp H
    obtain ⟨t112, A110, H⟩ := H
    replace H : ((federationref1_Norm.f k 3 (wrap64 (t111 - 1000)) t112 (⟨#[]⟩ : ByteArray)).bind fun bt113 => ((key_Key.f k 2 a0 0 (⟨#[]⟩ : ByteArray)).bind fun t118 => ((key_Key.f k 2 a1 0 (⟨#[]⟩ : ByteArray)).bind fun t119 => (if ((Op.bytesLess t118.toList t119.toList) == (decide (a0 < a1))) = true then ((key_Key.f k 2 a0 0 (⟨#[]⟩ : ByteArray)).bind fun t120 => (if (t120.size : Int) = 9 then ((key_Key.f k t106 t107 t108 t109).bind fun t121 => (if (t121.size : Int) = 13 then ((key_Key.f k t106 t107 t108 t109).bind fun t122 => ((key_Key.f k bt113.1 bt113.2.1 bt113.2.2.1 bt113.2.2.2).bind fun t123 => ((federationref1_Order.f k t106 t107 t108 t109 bt113.1 bt113.2.1 bt113.2.2.1 bt113.2.2.2).bind fun t124 => (some ((Op.bytesLess t122.toList t123.toList) == (decide (t124 < 0))))))) else (none))) else (none))) else (none))))) = some r := H
    have A11 := Aside0.mk A110
    clear A110
    replace H := Option.bind_eq_some_iff.mp H
    obtain ⟨⟨t113, t114, t115, t116⟩, A120, H⟩ := H
    replace H : ((key_Key.f k 2 a0 0 (⟨#[]⟩ : ByteArray)).bind fun t118 => ((key_Key.f k 2 a1 0 (⟨#[]⟩ : ByteArray)).bind fun t119 => (if ((Op.bytesLess t118.toList t119.toList) == (decide (a0 < a1))) = true then ((key_Key.f k 2 a0 0 (⟨#[]⟩ : ByteArray)).bind fun t120 => (if (t120.size : Int) = 9 then ((key_Key.f k t106 t107 t108 t109).bind fun t121 => (if (t121.size : Int) = 13 then ((key_Key.f k t106 t107 t108 t109).bind fun t122 => ((key_Key.f k t113 t114 t115 t116).bind fun t123 => ((federationref1_Order.f k t106 t107 t108 t109 t113 t114 t115 t116).bind fun t124 => (some ((Op.bytesLess t122.toList t123.toList) == (decide (t124 < 0))))))) else (none))) else (none))) else (none)))) = some r := H
    have A12 := Aside0.mk A120
    clear A120
    replace H := Option.bind_eq_some_iff.mp H
    obtain ⟨t118, A130, H⟩ := H
    replace H : ((key_Key.f k 2 a1 0 (⟨#[]⟩ : ByteArray)).bind fun t119 => (if ((Op.bytesLess t118.toList t119.toList) == (decide (a0 < a1))) = true then ((key_Key.f k 2 a0 0 (⟨#[]⟩ : ByteArray)).bind fun t120 => (if (t120.size : Int) = 9 then ((key_Key.f k t106 t107 t108 t109).bind fun t121 => (if (t121.size : Int) = 13 then ((key_Key.f k t106 t107 t108 t109).bind fun t122 => ((key_Key.f k t113 t114 t115 t116).bind fun t123 => ((federationref1_Order.f k t106 t107 t108 t109 t113 t114 t115 t116).bind fun t124 => (some ((Op.bytesLess t122.toList t123.toList) == (decide (t124 < 0))))))) else (none))) else (none))) else (none))) = some r := H
    have A13 := Aside0.mk A130
    clear A130
    replace H := Option.bind_eq_some_iff.mp H
    obtain ⟨t119, A140, H⟩ := H
    replace H : (if ((Op.bytesLess t118.toList t119.toList) == (decide (a0 < a1))) = true then ((key_Key.f k 2 a0 0 (⟨#[]⟩ : ByteArray)).bind fun t120 => (if (t120.size : Int) = 9 then ((key_Key.f k t106 t107 t108 t109).bind fun t121 => (if (t121.size : Int) = 13 then ((key_Key.f k t106 t107 t108 t109).bind fun t122 => ((key_Key.f k t113 t114 t115 t116).bind fun t123 => ((federationref1_Order.f k t106 t107 t108 t109 t113 t114 t115 t116).bind fun t124 => (some ((Op.bytesLess t122.toList t123.toList) == (decide (t124 < 0))))))) else (none))) else (none))) else (none)) = some r := H
    have A14 := Aside0.mk A140
    clear A140
    by_cases c15 : ((Op.bytesLess t118.toList t119.toList) == (decide (a0 < a1))) = true
    · rw [if_pos c15] at H
      have c15b0 : ((Op.bytesLess t118.toList t119.toList) == (decide (a0 < a1))) = true := c15
      (try (have c15b1 : decide ((Op.bytesLess t118.toList t119.toList) = (decide (a0 < a1))) = true := by simpa using c15))
      (try (have c15b2 : ((Op.bytesLess t118.toList t119.toList) == (decide (a0 < a1))) = true := by simpa using c15))
      clear c15
      replace H := Option.bind_eq_some_iff.mp H
      obtain ⟨t120, A160, H⟩ := H
      replace H : (if (t120.size : Int) = 9 then ((key_Key.f k t106 t107 t108 t109).bind fun t121 => (if (t121.size : Int) = 13 then ((key_Key.f k t106 t107 t108 t109).bind fun t122 => ((key_Key.f k t113 t114 t115 t116).bind fun t123 => ((federationref1_Order.f k t106 t107 t108 t109 t113 t114 t115 t116).bind fun t124 => (some ((Op.bytesLess t122.toList t123.toList) == (decide (t124 < 0))))))) else (none))) else (none)) = some r := H
      have A16 := Aside0.mk A160
      clear A160
      by_cases c17 : (t120.size : Int) = 9
      · rw [if_pos c17] at H
        have c17b0 : ((t120.size : Int) == 9) = true := beq_iff_eq.mpr c17
        have c17b1 : ((t120.size : Int) != 9) = false := bne_eq_false_iff_eq.mpr c17
        clear c17
        replace H := Option.bind_eq_some_iff.mp H
        obtain ⟨t121, A180, H⟩ := H
        replace H : (if (t121.size : Int) = 13 then ((key_Key.f k t106 t107 t108 t109).bind fun t122 => ((key_Key.f k t113 t114 t115 t116).bind fun t123 => ((federationref1_Order.f k t106 t107 t108 t109 t113 t114 t115 t116).bind fun t124 => (some ((Op.bytesLess t122.toList t123.toList) == (decide (t124 < 0))))))) else (none)) = some r := H
        have A18 := Aside0.mk A180
        clear A180
        by_cases c19 : (t121.size : Int) = 13
        · rw [if_pos c19] at H
          have c19b0 : ((t121.size : Int) == 13) = true := beq_iff_eq.mpr c19
          have c19b1 : ((t121.size : Int) != 13) = false := bne_eq_false_iff_eq.mpr c19
          clear c19
          replace H := Option.bind_eq_some_iff.mp H
          obtain ⟨t122, A200, H⟩ := H
          replace H : ((key_Key.f k t113 t114 t115 t116).bind fun t123 => ((federationref1_Order.f k t106 t107 t108 t109 t113 t114 t115 t116).bind fun t124 => (some ((Op.bytesLess t122.toList t123.toList) == (decide (t124 < 0)))))) = some r := H
          have A20 := Aside0.mk A200
          clear A200
          replace H := Option.bind_eq_some_iff.mp H
          obtain ⟨t123, A210, H⟩ := H
          replace H : ((federationref1_Order.f k t106 t107 t108 t109 t113 t114 t115 t116).bind fun t124 => (some ((Op.bytesLess t122.toList t123.toList) == (decide (t124 < 0))))) = some r := H
          have A21 := Aside0.mk A210
          clear A210
          replace H := Option.bind_eq_some_iff.mp H
          obtain ⟨t124, A220, H⟩ := H
          replace H : (some ((Op.bytesLess t122.toList t123.toList) == (decide (t124 < 0)))) = some r := H
          have A22 := Aside0.mk A220
          clear A220
          obtain rfl := Option.some.inj H
          go_enter Try.func6, Try.ntmps6
          try go_wp2_with (first | ((with_reducible refine gate_callee (f := 12) rfl ?_); refine goesL_ (some 13) rfl rfl Try.func12 (by kernel_rfl) rfl #[] rfl (by (try simp only [List.map_toArray, List.map_cons, List.map_nil]); first | done | rfl | (simp only [List.length_drop, List.length_take]; rfl)) ?_; (with_reducible refine (federationlaw2_known.calls k  true _ A5.out).mono ?_); rintro e w23 ⟨rfl, hb⟩; refine ⟨_, rfl, ?_⟩; have n0_ := Aside0.mk (below_step (by repeat (first | (with_reducible first | exact HB.out | apply below_alloc | apply pw_below_drewN | apply below_drew1) | exact HB.out)) hb); clear HB; have HB := n0_; clear n0_; (try clear hb); (try clear hb2); (try clear hk); (try clear hi)) | ((with_reducible refine gate_dst (N := 9) rfl ?_); (try (refine gate_guard (by rfl) ?_; dsimp only)); refine box_event ?hg (N := 9) ?hd (cs := #[.int .i64 0, .int .i64 0, .int .i64 0, .string (⟨#[]⟩ : ByteArray)]) (t := 24) ?hr ?_; (case hd => rfl); (case hg => rfl); (case hr => first | (go_simp; done) | (go_simp; rfl)); intro gb102 hg w24 hbox hb; have n0_ := Aside0.mk (below_step (by repeat (first | (with_reducible first | exact HB.out | apply below_alloc | apply pw_below_drewN | apply below_drew1) | exact HB.out)) hb); have n1_ := Aside0.mk (hbox); have n2_ := Aside0.mk ((by rw [hg]; exact (below_size (by repeat (first | (with_reducible first | exact HB.out | apply below_alloc | apply pw_below_drewN | apply below_drew1) | exact HB.out))) : w.heap.size ≤ gb102)); have n3_ := Aside0.mk ((by rw [hg]; exact (below_size (by repeat (first | (with_reducible first | exact HB.out | apply below_alloc | apply pw_below_drewN | apply below_drew1) | exact HB.out))) : w.heap.size ≤ gb102)); clear HB; have HB := n0_; have BK102 := n1_; have GW102 := n2_; have GE102 := n3_; clear n0_ n1_ n2_ n3_; clear hb hbox hg) | ((with_reducible refine gate_dst (N := 10) rfl ?_); (try (refine gate_guard (by rfl) ?_; dsimp only)); refine box_event ?hg (N := 10) ?hd (cs := #[.int .i64 0, .int .i64 0, .int .i64 0, .string (⟨#[]⟩ : ByteArray)]) (t := 24) ?hr ?_; (case hd => rfl); (case hg => rfl); (case hr => first | (go_simp; done) | (go_simp; rfl)); intro gb103 hg w25 hbox hb; have n0_ := Aside0.mk (blk_below (g := gb102) (o := .cells #[.int .i64 0, .int .i64 0, .int .i64 0, .string (⟨#[]⟩ : ByteArray)] 24 (0, 0)) (by (with_reducible repeat (first | refine blk_drewN ?_ _ | refine blk_drew ?_ | refine blk_alloc ?_ _)); exact BK102.out) hb); have n1_ := Aside0.mk (below_step (by repeat (first | (with_reducible first | exact HB.out | apply below_alloc | apply pw_below_drewN | apply below_drew1 | refine below_set ?_ GE102.out) | exact HB.out)) hb); have n2_ := Aside0.mk (hbox); have n3_ := Aside0.mk ((by rw [hg]; exact (below_size (by repeat (first | (with_reducible first | exact HB.out | apply below_alloc | apply pw_below_drewN | apply below_drew1 | refine below_set ?_ GE102.out) | exact HB.out))) : w.heap.size ≤ gb103)); have n4_ := Aside0.mk ((by rw [hg]; exact (below_size (by repeat (first | (with_reducible first | exact HB.out | apply below_alloc | apply pw_below_drewN | apply below_drew1 | refine below_set ?_ GE102.out) | exact HB.out))) : w.heap.size ≤ gb103)); have n5_ := Aside0.mk ((by rw [hg]; exact Nat.ne_of_lt (blk_lt (g := gb102) (o := .cells #[.int .i64 0, .int .i64 0, .int .i64 0, .string (⟨#[]⟩ : ByteArray)] 24 (0, 0)) (by (with_reducible repeat (first | refine blk_drewN ?_ _ | refine blk_drew ?_ | refine blk_alloc ?_ _)); exact BK102.out)) : gb102 ≠ gb103)); have n6_ := Aside0.mk ((by rw [hg]; exact Nat.ne_of_gt (blk_lt (g := gb102) (o := .cells #[.int .i64 0, .int .i64 0, .int .i64 0, .string (⟨#[]⟩ : ByteArray)] 24 (0, 0)) (by (with_reducible repeat (first | refine blk_drewN ?_ _ | refine blk_drew ?_ | refine blk_alloc ?_ _)); exact BK102.out)) : gb103 ≠ gb102)); clear BK102; clear HB; have BK102 := n0_; have HB := n1_; have BK103 := n2_; have GW103 := n3_; have GE103 := n4_; have NB102_103 := n5_; have NB103_102 := n6_; clear n0_ n1_ n2_ n3_ n4_ n5_ n6_; clear hb hbox hg; have hnb26 := NB102_103.out; have hnc26 := NB103_102.out; have hcz27_0 : w25.cell? ⟨gb102, 0, none⟩ = some (.int .i64 0) := (blk_cell BK102.out 0).trans rfl; have hcz27_1 : w25.cell? ⟨gb102, 1, none⟩ = some (.int .i64 0) := (blk_cell BK102.out 1).trans rfl; have hcz27_2 : w25.cell? ⟨gb102, 2, none⟩ = some (.int .i64 0) := (blk_cell BK102.out 2).trans rfl; have hcz27_3 : w25.cell? ⟨gb102, 3, none⟩ = some (.string (⟨#[]⟩ : ByteArray)) := (blk_cell BK102.out 3).trans rfl; have hfz27_0 := blk_frozen BK102.out 0; have hfz27_1 := blk_frozen BK102.out 1; have hfz27_2 := blk_frozen BK102.out 2; have hfz27_3 := blk_frozen BK102.out 3; have hcz28_0 : w25.cell? ⟨gb103, 0, none⟩ = some (.int .i64 0) := (blk_cell BK103.out 0).trans rfl; have hcz28_1 : w25.cell? ⟨gb103, 1, none⟩ = some (.int .i64 0) := (blk_cell BK103.out 1).trans rfl; have hcz28_2 : w25.cell? ⟨gb103, 2, none⟩ = some (.int .i64 0) := (blk_cell BK103.out 2).trans rfl; have hcz28_3 : w25.cell? ⟨gb103, 3, none⟩ = some (.string (⟨#[]⟩ : ByteArray)) := (blk_cell BK103.out 3).trans rfl; have hfz28_0 := blk_frozen BK103.out 0; have hfz28_1 := blk_frozen BK103.out 1; have hfz28_2 := blk_frozen BK103.out 2; have hfz28_3 := blk_frozen BK103.out 3) | ((with_reducible refine gate_callee (f := 17) rfl ?_); refine goesL_ (some 20) rfl rfl Try.func17 (by kernel_rfl) rfl #[.int .i64 a2, .int .i64 2000001] rfl (by (try simp only [List.map_toArray, List.map_cons, List.map_nil]); first | done | rfl | (simp only [List.length_drop, List.length_take]; rfl)) ?_; (with_reducible refine (federationlaw2_within.calls a2 2000001 t104 _ A7.out).mono ?_); rintro e w' ⟨rfl, ⟨nd, rfl⟩⟩; refine ⟨_, rfl, ?_⟩) | ((with_reducible refine gate_callee (f := 17) rfl ?_); refine goesL_ (some 23) rfl rfl Try.func17 (by kernel_rfl) rfl #[.int .i64 a3, .int .i64 7] rfl (by (try simp only [List.map_toArray, List.map_cons, List.map_nil]); first | done | rfl | (simp only [List.length_drop, List.length_take]; rfl)) ?_; (with_reducible refine (federationlaw2_within.calls a3 7 t105 _ A8.out).mono ?_); rintro e w' ⟨rfl, ⟨nd, rfl⟩⟩; refine ⟨_, rfl, ?_⟩) | ((with_reducible refine gate_callee (f := 24) rfl ?_); refine goesL_ (some 25) rfl rfl Try.func24 (by kernel_rfl) rfl #[.agg #[.int .i64 3, .int .i64 (wrap64 (t104 - 1000000)), .int .i64 t105, .string (⟨#[]⟩ : ByteArray)]] rfl (by (try simp only [List.map_toArray, List.map_cons, List.map_nil]); first | done | rfl | (simp only [List.length_drop, List.length_take]; rfl)) ?_; (with_reducible refine (federationref1_Norm.calls k 3 (wrap64 (t104 - 1000000)) t105 (⟨#[]⟩ : ByteArray) t106 t107 t108 t109 _ A9.out).mono ?_); rintro e w29 ⟨rfl, hb⟩; refine ⟨_, rfl, ?_⟩; have n0_ := Aside0.mk (blk_below (g := gb102) (o := .cells #[.int .i64 2, .int .i64 a0, .int .i64 0, .string (⟨#[]⟩ : ByteArray)] 24 (0, 0)) (by (with_reducible repeat (first | refine blk_drewN ?_ _ | refine blk_drew ?_ | refine blk_alloc ?_ _)); refine blk_far ?_ NB102_103.out _; (with_reducible repeat (first | refine blk_drewN ?_ _ | refine blk_drew ?_ | refine blk_alloc ?_ _)); refine blk_far ?_ NB102_103.out _; (with_reducible repeat (first | refine blk_drewN ?_ _ | refine blk_drew ?_ | refine blk_alloc ?_ _)); refine blk_far ?_ NB102_103.out _; (with_reducible repeat (first | refine blk_drewN ?_ _ | refine blk_drew ?_ | refine blk_alloc ?_ _)); refine blk_far ?_ NB102_103.out _; (with_reducible repeat (first | refine blk_drewN ?_ _ | refine blk_drew ?_ | refine blk_alloc ?_ _)); refine blk_put (cs := #[.int .i64 2, .int .i64 a0, .int .i64 0, .string (⟨#[]⟩ : ByteArray)]) ?_ 3 _ rfl; (with_reducible repeat (first | refine blk_drewN ?_ _ | refine blk_drew ?_ | refine blk_alloc ?_ _)); refine blk_put (cs := #[.int .i64 2, .int .i64 a0, .int .i64 0, .string (⟨#[]⟩ : ByteArray)]) ?_ 2 _ rfl; (with_reducible repeat (first | refine blk_drewN ?_ _ | refine blk_drew ?_ | refine blk_alloc ?_ _)); refine blk_put (cs := #[.int .i64 2, .int .i64 0, .int .i64 0, .string (⟨#[]⟩ : ByteArray)]) ?_ 1 _ rfl; (with_reducible repeat (first | refine blk_drewN ?_ _ | refine blk_drew ?_ | refine blk_alloc ?_ _)); refine blk_put (cs := #[.int .i64 0, .int .i64 0, .int .i64 0, .string (⟨#[]⟩ : ByteArray)]) ?_ 0 _ rfl; (with_reducible repeat (first | refine blk_drewN ?_ _ | refine blk_drew ?_ | refine blk_alloc ?_ _)); exact BK102.out) hb); have n1_ := Aside0.mk (blk_below (g := gb103) (o := .cells #[.int .i64 2, .int .i64 a1, .int .i64 0, .string (⟨#[]⟩ : ByteArray)] 24 (0, 0)) (by (with_reducible repeat (first | refine blk_drewN ?_ _ | refine blk_drew ?_ | refine blk_alloc ?_ _)); refine blk_put (cs := #[.int .i64 2, .int .i64 a1, .int .i64 0, .string (⟨#[]⟩ : ByteArray)]) ?_ 3 _ rfl; (with_reducible repeat (first | refine blk_drewN ?_ _ | refine blk_drew ?_ | refine blk_alloc ?_ _)); refine blk_put (cs := #[.int .i64 2, .int .i64 a1, .int .i64 0, .string (⟨#[]⟩ : ByteArray)]) ?_ 2 _ rfl; (with_reducible repeat (first | refine blk_drewN ?_ _ | refine blk_drew ?_ | refine blk_alloc ?_ _)); refine blk_put (cs := #[.int .i64 2, .int .i64 0, .int .i64 0, .string (⟨#[]⟩ : ByteArray)]) ?_ 1 _ rfl; (with_reducible repeat (first | refine blk_drewN ?_ _ | refine blk_drew ?_ | refine blk_alloc ?_ _)); refine blk_put (cs := #[.int .i64 0, .int .i64 0, .int .i64 0, .string (⟨#[]⟩ : ByteArray)]) ?_ 0 _ rfl; (with_reducible repeat (first | refine blk_drewN ?_ _ | refine blk_drew ?_ | refine blk_alloc ?_ _)); refine blk_far ?_ NB103_102.out _; (with_reducible repeat (first | refine blk_drewN ?_ _ | refine blk_drew ?_ | refine blk_alloc ?_ _)); refine blk_far ?_ NB103_102.out _; (with_reducible repeat (first | refine blk_drewN ?_ _ | refine blk_drew ?_ | refine blk_alloc ?_ _)); refine blk_far ?_ NB103_102.out _; (with_reducible repeat (first | refine blk_drewN ?_ _ | refine blk_drew ?_ | refine blk_alloc ?_ _)); refine blk_far ?_ NB103_102.out _; (with_reducible repeat (first | refine blk_drewN ?_ _ | refine blk_drew ?_ | refine blk_alloc ?_ _)); exact BK103.out) hb); have n2_ := Aside0.mk (below_step (by repeat (first | (with_reducible first | exact HB.out | apply below_alloc | apply pw_below_drewN | apply below_drew1 | refine below_set ?_ GE102.out | refine below_set ?_ GE103.out) | exact HB.out)) hb); clear BK102; clear BK103; clear HB; have BK102 := n0_; have BK103 := n1_; have HB := n2_; clear n0_ n1_ n2_; (try clear hb); (try clear hb2); (try clear hk); (try clear hi)) | ((with_reducible refine gate_dst (N := 11) rfl ?_); (try (refine gate_guard (by rfl) ?_; dsimp only)); refine box_event ?hg (N := 11) ?hd (cs := #[.int .i64 0, .int .i64 0, .int .i64 0, .string (⟨#[]⟩ : ByteArray)]) (t := 24) ?hr ?_; (case hd => rfl); (case hg => rfl); (case hr => first | (go_simp; done) | (go_simp; rfl)); intro gb110 hg w30 hbox hb; have n0_ := Aside0.mk (blk_below (g := gb102) (o := .cells #[.int .i64 2, .int .i64 a0, .int .i64 0, .string (⟨#[]⟩ : ByteArray)] 24 (0, 0)) (by (with_reducible repeat (first | refine blk_drewN ?_ _ | refine blk_drew ?_ | refine blk_alloc ?_ _)); exact BK102.out) hb); have n1_ := Aside0.mk (blk_below (g := gb103) (o := .cells #[.int .i64 2, .int .i64 a1, .int .i64 0, .string (⟨#[]⟩ : ByteArray)] 24 (0, 0)) (by (with_reducible repeat (first | refine blk_drewN ?_ _ | refine blk_drew ?_ | refine blk_alloc ?_ _)); exact BK103.out) hb); have n2_ := Aside0.mk (below_step (by repeat (first | (with_reducible first | exact HB.out | apply below_alloc | apply pw_below_drewN | apply below_drew1 | refine below_set ?_ GE102.out | refine below_set ?_ GE103.out) | exact HB.out)) hb); have n3_ := Aside0.mk (hbox); have n4_ := Aside0.mk ((by rw [hg]; exact (below_size (by repeat (first | (with_reducible first | exact HB.out | apply below_alloc | apply pw_below_drewN | apply below_drew1 | refine below_set ?_ GE102.out | refine below_set ?_ GE103.out) | exact HB.out))) : w.heap.size ≤ gb110)); have n5_ := Aside0.mk ((by rw [hg]; exact (below_size (by repeat (first | (with_reducible first | exact HB.out | apply below_alloc | apply pw_below_drewN | apply below_drew1 | refine below_set ?_ GE102.out | refine below_set ?_ GE103.out) | exact HB.out))) : w.heap.size ≤ gb110)); have n6_ := Aside0.mk ((by rw [hg]; exact Nat.ne_of_lt (blk_lt (g := gb102) (o := .cells #[.int .i64 2, .int .i64 a0, .int .i64 0, .string (⟨#[]⟩ : ByteArray)] 24 (0, 0)) (by (with_reducible repeat (first | refine blk_drewN ?_ _ | refine blk_drew ?_ | refine blk_alloc ?_ _)); exact BK102.out)) : gb102 ≠ gb110)); have n7_ := Aside0.mk ((by rw [hg]; exact Nat.ne_of_gt (blk_lt (g := gb102) (o := .cells #[.int .i64 2, .int .i64 a0, .int .i64 0, .string (⟨#[]⟩ : ByteArray)] 24 (0, 0)) (by (with_reducible repeat (first | refine blk_drewN ?_ _ | refine blk_drew ?_ | refine blk_alloc ?_ _)); exact BK102.out)) : gb110 ≠ gb102)); have n8_ := Aside0.mk ((by rw [hg]; exact Nat.ne_of_lt (blk_lt (g := gb103) (o := .cells #[.int .i64 2, .int .i64 a1, .int .i64 0, .string (⟨#[]⟩ : ByteArray)] 24 (0, 0)) (by (with_reducible repeat (first | refine blk_drewN ?_ _ | refine blk_drew ?_ | refine blk_alloc ?_ _)); exact BK103.out)) : gb103 ≠ gb110)); have n9_ := Aside0.mk ((by rw [hg]; exact Nat.ne_of_gt (blk_lt (g := gb103) (o := .cells #[.int .i64 2, .int .i64 a1, .int .i64 0, .string (⟨#[]⟩ : ByteArray)] 24 (0, 0)) (by (with_reducible repeat (first | refine blk_drewN ?_ _ | refine blk_drew ?_ | refine blk_alloc ?_ _)); exact BK103.out)) : gb110 ≠ gb103)); clear BK102; clear BK103; clear HB; have BK102 := n0_; have BK103 := n1_; have HB := n2_; have BK110 := n3_; have GW110 := n4_; have GE110 := n5_; have NB102_110 := n6_; have NB110_102 := n7_; have NB103_110 := n8_; have NB110_103 := n9_; clear n0_ n1_ n2_ n3_ n4_ n5_ n6_ n7_ n8_ n9_; clear hb hbox hg; have hnb31 := NB110_102.out; have hnc31 := NB102_110.out; have hnb32 := NB110_103.out; have hnc32 := NB103_110.out; have hcz33_0 : w30.cell? ⟨gb110, 0, none⟩ = some (.int .i64 0) := (blk_cell BK110.out 0).trans rfl; have hcz33_1 : w30.cell? ⟨gb110, 1, none⟩ = some (.int .i64 0) := (blk_cell BK110.out 1).trans rfl; have hcz33_2 : w30.cell? ⟨gb110, 2, none⟩ = some (.int .i64 0) := (blk_cell BK110.out 2).trans rfl; have hcz33_3 : w30.cell? ⟨gb110, 3, none⟩ = some (.string (⟨#[]⟩ : ByteArray)) := (blk_cell BK110.out 3).trans rfl; have hfz33_0 := blk_frozen BK110.out 0; have hfz33_1 := blk_frozen BK110.out 1; have hfz33_2 := blk_frozen BK110.out 2; have hfz33_3 := blk_frozen BK110.out 3) | ((with_reducible refine gate_callee (f := 17) rfl ?_); refine goesL_ (some 27) rfl rfl Try.func17 (by kernel_rfl) rfl #[.int .i64 a0, .int .i64 2001] rfl (by (try simp only [List.map_toArray, List.map_cons, List.map_nil]); first | done | rfl | (simp only [List.length_drop, List.length_take]; rfl)) ?_; (with_reducible refine (federationlaw2_within.calls a0 2001 t111 _ A10.out).mono ?_); rintro e w' ⟨rfl, ⟨nd, rfl⟩⟩; refine ⟨_, rfl, ?_⟩) | ((with_reducible refine gate_callee (f := 17) rfl ?_); refine goesL_ (some 31) rfl rfl Try.func17 (by kernel_rfl) rfl #[.int .i64 (wrap64 (Int.tdiv a3 7)), .int .i64 4] rfl (by (try simp only [List.map_toArray, List.map_cons, List.map_nil]); first | done | rfl | (simp only [List.length_drop, List.length_take]; rfl)) ?_; (with_reducible refine (federationlaw2_within.calls (wrap64 (Int.tdiv a3 7)) 4 t112 _ A11.out).mono ?_); rintro e w' ⟨rfl, ⟨nd, rfl⟩⟩; refine ⟨_, rfl, ?_⟩) | ((with_reducible refine gate_callee (f := 24) rfl ?_); refine goesL_ (some 33) rfl rfl Try.func24 (by kernel_rfl) rfl #[.agg #[.int .i64 3, .int .i64 (wrap64 (t111 - 1000)), .int .i64 t112, .string (⟨#[]⟩ : ByteArray)]] rfl (by (try simp only [List.map_toArray, List.map_cons, List.map_nil]); first | done | rfl | (simp only [List.length_drop, List.length_take]; rfl)) ?_; (with_reducible refine (federationref1_Norm.calls k 3 (wrap64 (t111 - 1000)) t112 (⟨#[]⟩ : ByteArray) t113 t114 t115 t116 _ A12.out).mono ?_); rintro e w34 ⟨rfl, hb⟩; refine ⟨_, rfl, ?_⟩; have n0_ := Aside0.mk (blk_below (g := gb102) (o := .cells #[.int .i64 2, .int .i64 a0, .int .i64 0, .string (⟨#[]⟩ : ByteArray)] 24 (0, 0)) (by (with_reducible repeat (first | refine blk_drewN ?_ _ | refine blk_drew ?_ | refine blk_alloc ?_ _)); refine blk_far ?_ NB102_110.out _; (with_reducible repeat (first | refine blk_drewN ?_ _ | refine blk_drew ?_ | refine blk_alloc ?_ _)); refine blk_far ?_ NB102_110.out _; (with_reducible repeat (first | refine blk_drewN ?_ _ | refine blk_drew ?_ | refine blk_alloc ?_ _)); refine blk_far ?_ NB102_110.out _; (with_reducible repeat (first | refine blk_drewN ?_ _ | refine blk_drew ?_ | refine blk_alloc ?_ _)); refine blk_far ?_ NB102_110.out _; (with_reducible repeat (first | refine blk_drewN ?_ _ | refine blk_drew ?_ | refine blk_alloc ?_ _)); exact BK102.out) hb); have n1_ := Aside0.mk (blk_below (g := gb103) (o := .cells #[.int .i64 2, .int .i64 a1, .int .i64 0, .string (⟨#[]⟩ : ByteArray)] 24 (0, 0)) (by (with_reducible repeat (first | refine blk_drewN ?_ _ | refine blk_drew ?_ | refine blk_alloc ?_ _)); refine blk_far ?_ NB103_110.out _; (with_reducible repeat (first | refine blk_drewN ?_ _ | refine blk_drew ?_ | refine blk_alloc ?_ _)); refine blk_far ?_ NB103_110.out _; (with_reducible repeat (first | refine blk_drewN ?_ _ | refine blk_drew ?_ | refine blk_alloc ?_ _)); refine blk_far ?_ NB103_110.out _; (with_reducible repeat (first | refine blk_drewN ?_ _ | refine blk_drew ?_ | refine blk_alloc ?_ _)); refine blk_far ?_ NB103_110.out _; (with_reducible repeat (first | refine blk_drewN ?_ _ | refine blk_drew ?_ | refine blk_alloc ?_ _)); exact BK103.out) hb); have n2_ := Aside0.mk (blk_below (g := gb110) (o := .cells #[.int .i64 t106, .int .i64 t107, .int .i64 t108, .string t109] 24 (0, 0)) (by (with_reducible repeat (first | refine blk_drewN ?_ _ | refine blk_drew ?_ | refine blk_alloc ?_ _)); refine blk_put (cs := #[.int .i64 t106, .int .i64 t107, .int .i64 t108, .string (⟨#[]⟩ : ByteArray)]) ?_ 3 _ rfl; (with_reducible repeat (first | refine blk_drewN ?_ _ | refine blk_drew ?_ | refine blk_alloc ?_ _)); refine blk_put (cs := #[.int .i64 t106, .int .i64 t107, .int .i64 0, .string (⟨#[]⟩ : ByteArray)]) ?_ 2 _ rfl; (with_reducible repeat (first | refine blk_drewN ?_ _ | refine blk_drew ?_ | refine blk_alloc ?_ _)); refine blk_put (cs := #[.int .i64 t106, .int .i64 0, .int .i64 0, .string (⟨#[]⟩ : ByteArray)]) ?_ 1 _ rfl; (with_reducible repeat (first | refine blk_drewN ?_ _ | refine blk_drew ?_ | refine blk_alloc ?_ _)); refine blk_put (cs := #[.int .i64 0, .int .i64 0, .int .i64 0, .string (⟨#[]⟩ : ByteArray)]) ?_ 0 _ rfl; (with_reducible repeat (first | refine blk_drewN ?_ _ | refine blk_drew ?_ | refine blk_alloc ?_ _)); exact BK110.out) hb); have n3_ := Aside0.mk (below_step (by repeat (first | (with_reducible first | exact HB.out | apply below_alloc | apply pw_below_drewN | apply below_drew1 | refine below_set ?_ GE102.out | refine below_set ?_ GE103.out | refine below_set ?_ GE110.out) | exact HB.out)) hb); clear BK102; clear BK103; clear BK110; clear HB; have BK102 := n0_; have BK103 := n1_; have BK110 := n2_; have HB := n3_; clear n0_ n1_ n2_ n3_; (try clear hb); (try clear hb2); (try clear hk); (try clear hi)) | ((with_reducible refine gate_dst (N := 12) rfl ?_); (try (refine gate_guard (by rfl) ?_; dsimp only)); refine box_event ?hg (N := 12) ?hd (cs := #[.int .i64 0, .int .i64 0, .int .i64 0, .string (⟨#[]⟩ : ByteArray)]) (t := 24) ?hr ?_; (case hd => rfl); (case hg => rfl); (case hr => first | (go_simp; done) | (go_simp; rfl)); intro gb117 hg w35 hbox hb; have n0_ := Aside0.mk (blk_below (g := gb102) (o := .cells #[.int .i64 2, .int .i64 a0, .int .i64 0, .string (⟨#[]⟩ : ByteArray)] 24 (0, 0)) (by (with_reducible repeat (first | refine blk_drewN ?_ _ | refine blk_drew ?_ | refine blk_alloc ?_ _)); exact BK102.out) hb); have n1_ := Aside0.mk (blk_below (g := gb103) (o := .cells #[.int .i64 2, .int .i64 a1, .int .i64 0, .string (⟨#[]⟩ : ByteArray)] 24 (0, 0)) (by (with_reducible repeat (first | refine blk_drewN ?_ _ | refine blk_drew ?_ | refine blk_alloc ?_ _)); exact BK103.out) hb); have n2_ := Aside0.mk (blk_below (g := gb110) (o := .cells #[.int .i64 t106, .int .i64 t107, .int .i64 t108, .string t109] 24 (0, 0)) (by (with_reducible repeat (first | refine blk_drewN ?_ _ | refine blk_drew ?_ | refine blk_alloc ?_ _)); exact BK110.out) hb); have n3_ := Aside0.mk (below_step (by repeat (first | (with_reducible first | exact HB.out | apply below_alloc | apply pw_below_drewN | apply below_drew1 | refine below_set ?_ GE102.out | refine below_set ?_ GE103.out | refine below_set ?_ GE110.out) | exact HB.out)) hb); have n4_ := Aside0.mk (hbox); have n5_ := Aside0.mk ((by rw [hg]; exact (below_size (by repeat (first | (with_reducible first | exact HB.out | apply below_alloc | apply pw_below_drewN | apply below_drew1 | refine below_set ?_ GE102.out | refine below_set ?_ GE103.out | refine below_set ?_ GE110.out) | exact HB.out))) : w.heap.size ≤ gb117)); have n6_ := Aside0.mk ((by rw [hg]; exact (below_size (by repeat (first | (with_reducible first | exact HB.out | apply below_alloc | apply pw_below_drewN | apply below_drew1 | refine below_set ?_ GE102.out | refine below_set ?_ GE103.out | refine below_set ?_ GE110.out) | exact HB.out))) : w.heap.size ≤ gb117)); have n7_ := Aside0.mk ((by rw [hg]; exact Nat.ne_of_lt (blk_lt (g := gb102) (o := .cells #[.int .i64 2, .int .i64 a0, .int .i64 0, .string (⟨#[]⟩ : ByteArray)] 24 (0, 0)) (by (with_reducible repeat (first | refine blk_drewN ?_ _ | refine blk_drew ?_ | refine blk_alloc ?_ _)); exact BK102.out)) : gb102 ≠ gb117)); have n8_ := Aside0.mk ((by rw [hg]; exact Nat.ne_of_gt (blk_lt (g := gb102) (o := .cells #[.int .i64 2, .int .i64 a0, .int .i64 0, .string (⟨#[]⟩ : ByteArray)] 24 (0, 0)) (by (with_reducible repeat (first | refine blk_drewN ?_ _ | refine blk_drew ?_ | refine blk_alloc ?_ _)); exact BK102.out)) : gb117 ≠ gb102)); have n9_ := Aside0.mk ((by rw [hg]; exact Nat.ne_of_lt (blk_lt (g := gb103) (o := .cells #[.int .i64 2, .int .i64 a1, .int .i64 0, .string (⟨#[]⟩ : ByteArray)] 24 (0, 0)) (by (with_reducible repeat (first | refine blk_drewN ?_ _ | refine blk_drew ?_ | refine blk_alloc ?_ _)); exact BK103.out)) : gb103 ≠ gb117)); have n10_ := Aside0.mk ((by rw [hg]; exact Nat.ne_of_gt (blk_lt (g := gb103) (o := .cells #[.int .i64 2, .int .i64 a1, .int .i64 0, .string (⟨#[]⟩ : ByteArray)] 24 (0, 0)) (by (with_reducible repeat (first | refine blk_drewN ?_ _ | refine blk_drew ?_ | refine blk_alloc ?_ _)); exact BK103.out)) : gb117 ≠ gb103)); have n11_ := Aside0.mk ((by rw [hg]; exact Nat.ne_of_lt (blk_lt (g := gb110) (o := .cells #[.int .i64 t106, .int .i64 t107, .int .i64 t108, .string t109] 24 (0, 0)) (by (with_reducible repeat (first | refine blk_drewN ?_ _ | refine blk_drew ?_ | refine blk_alloc ?_ _)); exact BK110.out)) : gb110 ≠ gb117)); have n12_ := Aside0.mk ((by rw [hg]; exact Nat.ne_of_gt (blk_lt (g := gb110) (o := .cells #[.int .i64 t106, .int .i64 t107, .int .i64 t108, .string t109] 24 (0, 0)) (by (with_reducible repeat (first | refine blk_drewN ?_ _ | refine blk_drew ?_ | refine blk_alloc ?_ _)); exact BK110.out)) : gb117 ≠ gb110)); clear BK102; clear BK103; clear BK110; clear HB; have BK102 := n0_; have BK103 := n1_; have BK110 := n2_; have HB := n3_; have BK117 := n4_; have GW117 := n5_; have GE117 := n6_; have NB102_117 := n7_; have NB117_102 := n8_; have NB103_117 := n9_; have NB117_103 := n10_; have NB110_117 := n11_; have NB117_110 := n12_; clear n0_ n1_ n2_ n3_ n4_ n5_ n6_ n7_ n8_ n9_ n10_ n11_ n12_; clear hb hbox hg; have hnb36 := NB117_102.out; have hnc36 := NB102_117.out; have hnb37 := NB117_103.out; have hnc37 := NB103_117.out; have hnb38 := NB117_110.out; have hnc38 := NB110_117.out; have hcz39_0 : w35.cell? ⟨gb117, 0, none⟩ = some (.int .i64 0) := (blk_cell BK117.out 0).trans rfl; have hcz39_1 : w35.cell? ⟨gb117, 1, none⟩ = some (.int .i64 0) := (blk_cell BK117.out 1).trans rfl; have hcz39_2 : w35.cell? ⟨gb117, 2, none⟩ = some (.int .i64 0) := (blk_cell BK117.out 2).trans rfl; have hcz39_3 : w35.cell? ⟨gb117, 3, none⟩ = some (.string (⟨#[]⟩ : ByteArray)) := (blk_cell BK117.out 3).trans rfl; have hfz39_0 := blk_frozen BK117.out 0; have hfz39_1 := blk_frozen BK117.out 1; have hfz39_2 := blk_frozen BK117.out 2; have hfz39_3 := blk_frozen BK117.out 3))
          have n0_ : Aside0 (((((w35.setCell ⟨gb117, 0, none⟩ (.int .i64 t113)).setCell ⟨gb117, 1, none⟩ (.int .i64 t114)).setCell ⟨gb117, 2, none⟩ (.int .i64 t115)).setCell ⟨gb117, 3, none⟩ (.string t116)).heap[gb102]? = some (.cells #[.int .i64 2, .int .i64 a0, .int .i64 0, .string (⟨#[]⟩ : ByteArray)] 24 (0, 0))) := ⟨by (with_reducible repeat (first | refine blk_drewN ?_ _ | refine blk_drew ?_ | refine blk_alloc ?_ _)); refine blk_far ?_ NB102_117.out _; (with_reducible repeat (first | refine blk_drewN ?_ _ | refine blk_drew ?_ | refine blk_alloc ?_ _)); refine blk_far ?_ NB102_117.out _; (with_reducible repeat (first | refine blk_drewN ?_ _ | refine blk_drew ?_ | refine blk_alloc ?_ _)); refine blk_far ?_ NB102_117.out _; (with_reducible repeat (first | refine blk_drewN ?_ _ | refine blk_drew ?_ | refine blk_alloc ?_ _)); refine blk_far ?_ NB102_117.out _; (with_reducible repeat (first | refine blk_drewN ?_ _ | refine blk_drew ?_ | refine blk_alloc ?_ _)); exact BK102.out⟩
          have n1_ : Aside0 (((((w35.setCell ⟨gb117, 0, none⟩ (.int .i64 t113)).setCell ⟨gb117, 1, none⟩ (.int .i64 t114)).setCell ⟨gb117, 2, none⟩ (.int .i64 t115)).setCell ⟨gb117, 3, none⟩ (.string t116)).heap[gb103]? = some (.cells #[.int .i64 2, .int .i64 a1, .int .i64 0, .string (⟨#[]⟩ : ByteArray)] 24 (0, 0))) := ⟨by (with_reducible repeat (first | refine blk_drewN ?_ _ | refine blk_drew ?_ | refine blk_alloc ?_ _)); refine blk_far ?_ NB103_117.out _; (with_reducible repeat (first | refine blk_drewN ?_ _ | refine blk_drew ?_ | refine blk_alloc ?_ _)); refine blk_far ?_ NB103_117.out _; (with_reducible repeat (first | refine blk_drewN ?_ _ | refine blk_drew ?_ | refine blk_alloc ?_ _)); refine blk_far ?_ NB103_117.out _; (with_reducible repeat (first | refine blk_drewN ?_ _ | refine blk_drew ?_ | refine blk_alloc ?_ _)); refine blk_far ?_ NB103_117.out _; (with_reducible repeat (first | refine blk_drewN ?_ _ | refine blk_drew ?_ | refine blk_alloc ?_ _)); exact BK103.out⟩
          have n2_ : Aside0 (((((w35.setCell ⟨gb117, 0, none⟩ (.int .i64 t113)).setCell ⟨gb117, 1, none⟩ (.int .i64 t114)).setCell ⟨gb117, 2, none⟩ (.int .i64 t115)).setCell ⟨gb117, 3, none⟩ (.string t116)).heap[gb110]? = some (.cells #[.int .i64 t106, .int .i64 t107, .int .i64 t108, .string t109] 24 (0, 0))) := ⟨by (with_reducible repeat (first | refine blk_drewN ?_ _ | refine blk_drew ?_ | refine blk_alloc ?_ _)); refine blk_far ?_ NB110_117.out _; (with_reducible repeat (first | refine blk_drewN ?_ _ | refine blk_drew ?_ | refine blk_alloc ?_ _)); refine blk_far ?_ NB110_117.out _; (with_reducible repeat (first | refine blk_drewN ?_ _ | refine blk_drew ?_ | refine blk_alloc ?_ _)); refine blk_far ?_ NB110_117.out _; (with_reducible repeat (first | refine blk_drewN ?_ _ | refine blk_drew ?_ | refine blk_alloc ?_ _)); refine blk_far ?_ NB110_117.out _; (with_reducible repeat (first | refine blk_drewN ?_ _ | refine blk_drew ?_ | refine blk_alloc ?_ _)); exact BK110.out⟩
          have n3_ : Aside0 (((((w35.setCell ⟨gb117, 0, none⟩ (.int .i64 t113)).setCell ⟨gb117, 1, none⟩ (.int .i64 t114)).setCell ⟨gb117, 2, none⟩ (.int .i64 t115)).setCell ⟨gb117, 3, none⟩ (.string t116)).heap[gb117]? = some (.cells #[.int .i64 t113, .int .i64 t114, .int .i64 t115, .string t116] 24 (0, 0))) := ⟨by (with_reducible repeat (first | refine blk_drewN ?_ _ | refine blk_drew ?_ | refine blk_alloc ?_ _)); refine blk_put (cs := #[.int .i64 t113, .int .i64 t114, .int .i64 t115, .string (⟨#[]⟩ : ByteArray)]) ?_ 3 _ rfl; (with_reducible repeat (first | refine blk_drewN ?_ _ | refine blk_drew ?_ | refine blk_alloc ?_ _)); refine blk_put (cs := #[.int .i64 t113, .int .i64 t114, .int .i64 0, .string (⟨#[]⟩ : ByteArray)]) ?_ 2 _ rfl; (with_reducible repeat (first | refine blk_drewN ?_ _ | refine blk_drew ?_ | refine blk_alloc ?_ _)); refine blk_put (cs := #[.int .i64 t113, .int .i64 0, .int .i64 0, .string (⟨#[]⟩ : ByteArray)]) ?_ 1 _ rfl; (with_reducible repeat (first | refine blk_drewN ?_ _ | refine blk_drew ?_ | refine blk_alloc ?_ _)); refine blk_put (cs := #[.int .i64 0, .int .i64 0, .int .i64 0, .string (⟨#[]⟩ : ByteArray)]) ?_ 0 _ rfl; (with_reducible repeat (first | refine blk_drewN ?_ _ | refine blk_drew ?_ | refine blk_alloc ?_ _)); exact BK117.out⟩
          have n4_ : Aside0 (Below w.heap.size w ((((w35.setCell ⟨gb117, 0, none⟩ (.int .i64 t113)).setCell ⟨gb117, 1, none⟩ (.int .i64 t114)).setCell ⟨gb117, 2, none⟩ (.int .i64 t115)).setCell ⟨gb117, 3, none⟩ (.string t116))) := ⟨by repeat (first | (with_reducible first | exact HB.out | apply below_alloc | apply pw_below_drewN | apply below_drew1 | refine below_set ?_ GE102.out | refine below_set ?_ GE103.out | refine below_set ?_ GE110.out | refine below_set ?_ GE117.out) | exact HB.out)⟩
          (try clear BK102)
          (try clear BK103)
          (try clear BK110)
          (try clear BK117)
          (try clear HB)
          generalize ((((w35.setCell ⟨gb117, 0, none⟩ (.int .i64 t113)).setCell ⟨gb117, 1, none⟩ (.int .i64 t114)).setCell ⟨gb117, 2, none⟩ (.int .i64 t115)).setCell ⟨gb117, 3, none⟩ (.string t116)) = w40 at n0_ n1_ n2_ n3_ n4_ ⊢
          have BK102 := n0_
          have BK103 := n1_
          have BK110 := n2_
          have BK117 := n3_
          have HB := n4_
          clear n0_ n1_ n2_ n3_ n4_
          have n0_ := Aside0.mk (blk_drew BK102.out)
          have n1_ := Aside0.mk (blk_drew BK103.out)
          have n2_ := Aside0.mk (blk_drew BK110.out)
          have n3_ := Aside0.mk (blk_drew BK117.out)
          have n4_ := Aside0.mk (below_drew1 HB.out)
          clear BK102
          clear BK103
          clear BK110
          clear BK117
          clear HB
          have BK102 := n0_
          have BK103 := n1_
          have BK110 := n2_
          have BK117 := n3_
          have HB := n4_
          clear n0_ n1_ n2_ n3_ n4_
          refine start_ (n := 34) (S := fun w' => w'.cell? ⟨gb102, 0, none⟩ = some (.int .i64 2) ∧ w'.cell? ⟨gb102, 1, none⟩ = some (.int .i64 a0) ∧ w'.cell? ⟨gb102, 2, none⟩ = some (.int .i64 0) ∧ w'.cell? ⟨gb102, 3, none⟩ = some (.string (⟨#[]⟩ : ByteArray)) ∧ w'.cell? ⟨gb103, 0, none⟩ = some (.int .i64 2) ∧ w'.cell? ⟨gb103, 1, none⟩ = some (.int .i64 a1) ∧ w'.cell? ⟨gb103, 2, none⟩ = some (.int .i64 0) ∧ w'.cell? ⟨gb103, 3, none⟩ = some (.string (⟨#[]⟩ : ByteArray)) ∧ w'.cell? ⟨gb110, 0, none⟩ = some (.int .i64 t106) ∧ w'.cell? ⟨gb110, 1, none⟩ = some (.int .i64 t107) ∧ w'.cell? ⟨gb110, 2, none⟩ = some (.int .i64 t108) ∧ w'.cell? ⟨gb110, 3, none⟩ = some (.string t109) ∧ w'.cell? ⟨gb117, 0, none⟩ = some (.int .i64 t113) ∧ w'.cell? ⟨gb117, 1, none⟩ = some (.int .i64 t114) ∧ w'.cell? ⟨gb117, 2, none⟩ = some (.int .i64 t115) ∧ w'.cell? ⟨gb117, 3, none⟩ = some (.string t116)) (ds := []) #[false, false, false, false, false, false, false, false, false, false, false, false, false, false, false, false, false, false, false, false, false, false, false, false, false, false, false, false, false, false, false, false, false, false] (by kernel_rfl) rfl rfl ⟨(blk_cell BK102.out 0).trans rfl, (blk_cell BK102.out 1).trans rfl, (blk_cell BK102.out 2).trans rfl, (blk_cell BK102.out 3).trans rfl, (blk_cell BK103.out 0).trans rfl, (blk_cell BK103.out 1).trans rfl, (blk_cell BK103.out 2).trans rfl, (blk_cell BK103.out 3).trans rfl, (blk_cell BK110.out 0).trans rfl, (blk_cell BK110.out 1).trans rfl, (blk_cell BK110.out 2).trans rfl, (blk_cell BK110.out 3).trans rfl, (blk_cell BK117.out 0).trans rfl, (blk_cell BK117.out 1).trans rfl, (blk_cell BK117.out 2).trans rfl, (blk_cell BK117.out 3).trans rfl⟩ (fun hHeld => ?_); refine with_tabW federationlaw2_KeyInts.tab6 federationlaw2_KeyInts.bits6 (fun HT_ HW_ => ?_)
          generalize w40.drew = w41 at BK102 BK103 BK110 BK117 HB hHeld ⊢
          refine pure_ (i := 5) (N := some 39) (v := ?_) (a' := ?_) #[false, false, false, false, false, true, false, false, false, false, false, false, false, false, false, false, false, false, false, false, false, false, false, false, false, false, false, false, false, false, false, false, false, false] rfl rfl (any_of HT_.out (by kernel_rfl)) (fun _ _ _ h => h) (Or.inl ⟨by rfl, ?_⟩) ?_ ?_
          rotate_left
          · intro w'
            go_simp
            with_reducible rfl
          rotate_left
          · simp only [Act.put, List.setIfInBounds_toArray, List.set_cons_zero, List.set_cons_succ, i64_w, i32_w]
            rfl
          refine pure_ (i := 6) (N := some 40) (v := ?_) (a' := ?_) #[false, false, false, false, false, true, true, false, false, false, false, false, false, false, false, false, false, false, false, false, false, false, false, false, false, false, false, false, false, false, false, false, false, false] rfl rfl (any_of HT_.out (by kernel_rfl)) (fun _ _ _ h => h) (Or.inl ⟨by rfl, ?_⟩) ?_ ?_
          rotate_left
          · intro w'
            go_simp
            with_reducible rfl
          rotate_left
          · simp only [Act.put, List.setIfInBounds_toArray, List.set_cons_zero, List.set_cons_succ, i64_w, i32_w]
            rfl
          refine pure_ (i := 7) (N := some 41) (v := ?_) (a' := ?_) #[false, false, false, false, false, true, true, true, false, false, false, false, false, false, false, false, false, false, false, false, false, false, false, false, false, false, false, false, false, false, false, false, false, false] rfl rfl (any_of HT_.out (by kernel_rfl)) (fun _ _ _ h => h) (Or.inl ⟨by rfl, ?_⟩) ?_ ?_
          rotate_left
          · intro w'
            go_simp
            with_reducible rfl
          rotate_left
          · simp only [Act.put, List.setIfInBounds_toArray, List.set_cons_zero, List.set_cons_succ, i64_w, i32_w]
            rfl
          refine take_ (i := 0) (N := some 34) (v := ?_) (a' := ?_) #[true, false, false, false, false, true, true, true, false, false, false, false, false, false, false, false, false, false, false, false, false, false, false, false, false, false, false, false, false, false, false, false, false, false] rfl rfl (take_ofW HT_.out HW_.out (by kernel_rfl)) (fun _ _ _ h => h) (Or.inl ⟨by rfl, ?_⟩) hHeld ?_ ?_
          rotate_left
          · rintro w' ⟨s0, s1, s2, s3, s4, s5, s6, s7, s8, s9, s10, s11, s12, s13, s14, s15⟩
            go_simp
            with_reducible rfl
          rotate_left
          · simp only [Act.put, List.setIfInBounds_toArray, List.set_cons_zero, List.set_cons_succ, i64_w, i32_w]
            rfl
          refine take_ (i := 2) (N := some 36) (v := ?_) (a' := ?_) #[true, false, true, false, false, true, true, true, false, false, false, false, false, false, false, false, false, false, false, false, false, false, false, false, false, false, false, false, false, false, false, false, false, false] rfl rfl (take_ofW HT_.out HW_.out (by kernel_rfl)) (fun _ _ _ h => h) (Or.inl ⟨by rfl, ?_⟩) hHeld ?_ ?_
          rotate_left
          · rintro w' ⟨s0, s1, s2, s3, s4, s5, s6, s7, s8, s9, s10, s11, s12, s13, s14, s15⟩
            go_simp
            with_reducible rfl
          rotate_left
          · simp only [Act.put, List.setIfInBounds_toArray, List.set_cons_zero, List.set_cons_succ, i64_w, i32_w]
            rfl
          refine one_ (i := 1) (N := some 35) #[true, true, true, false, false, true, true, true, false, false, false, false, false, false, false, false, false, false, false, false, false, false, false, false, false, false, false, false, false, false, false, false, false, false] rfl rfl (one_of HT_.out (by kernel_rfl)) (by decide) (fun K hK => ?_)
          refine goes_ Try.func14 (by kernel_rfl) rfl #[.agg #[.int .i64 2, .int .i64 a0, .int .i64 0, .string (⟨#[]⟩ : ByteArray)]] (by rfl) rfl rfl (by (try simp only [List.map_toArray, List.map_cons, List.map_nil]); first | done | rfl | (simp only [List.length_drop, List.length_take]; rfl)) ?_
          with_reducible refine (key_Key.calls k 2 a0 0 (⟨#[]⟩ : ByteArray) t118 _ A13.out).mono ?_
          rintro e w42 ⟨rfl, hb⟩
          refine ⟨_, rfl, ?_⟩
          have n0_ := Aside0.mk (blk_below (g := gb102) (o := .cells #[.int .i64 2, .int .i64 a0, .int .i64 0, .string (⟨#[]⟩ : ByteArray)] 24 (0, 0)) (by (with_reducible repeat (first | refine blk_drewN ?_ _ | refine blk_drew ?_ | refine blk_alloc ?_ _)); exact BK102.out) hb)
          have n1_ := Aside0.mk (blk_below (g := gb103) (o := .cells #[.int .i64 2, .int .i64 a1, .int .i64 0, .string (⟨#[]⟩ : ByteArray)] 24 (0, 0)) (by (with_reducible repeat (first | refine blk_drewN ?_ _ | refine blk_drew ?_ | refine blk_alloc ?_ _)); exact BK103.out) hb)
          have n2_ := Aside0.mk (blk_below (g := gb110) (o := .cells #[.int .i64 t106, .int .i64 t107, .int .i64 t108, .string t109] 24 (0, 0)) (by (with_reducible repeat (first | refine blk_drewN ?_ _ | refine blk_drew ?_ | refine blk_alloc ?_ _)); exact BK110.out) hb)
          have n3_ := Aside0.mk (blk_below (g := gb117) (o := .cells #[.int .i64 t113, .int .i64 t114, .int .i64 t115, .string t116] 24 (0, 0)) (by (with_reducible repeat (first | refine blk_drewN ?_ _ | refine blk_drew ?_ | refine blk_alloc ?_ _)); exact BK117.out) hb)
          have n4_ := Aside0.mk (below_step (by repeat (first | (with_reducible first | exact HB.out | apply below_alloc | apply pw_below_drewN | apply below_drew1 | refine below_set ?_ GE102.out | refine below_set ?_ GE103.out | refine below_set ?_ GE110.out | refine below_set ?_ GE117.out) | exact HB.out)) hb)
          clear BK102
          clear BK103
          clear BK110
          clear BK117
          clear HB
          have BK102 := n0_
          have BK103 := n1_
          have BK110 := n2_
          have BK117 := n3_
          have HB := n4_
          clear n0_ n1_ n2_ n3_ n4_
          (try clear hb)
          (try clear hb2)
          (try clear hk)
          (try clear hi)
          refine hK.out _ _ ⟨(blk_cell BK102.out 0).trans rfl, (blk_cell BK102.out 1).trans rfl, (blk_cell BK102.out 2).trans rfl, (blk_cell BK102.out 3).trans rfl, (blk_cell BK103.out 0).trans rfl, (blk_cell BK103.out 1).trans rfl, (blk_cell BK103.out 2).trans rfl, (blk_cell BK103.out 3).trans rfl, (blk_cell BK110.out 0).trans rfl, (blk_cell BK110.out 1).trans rfl, (blk_cell BK110.out 2).trans rfl, (blk_cell BK110.out 3).trans rfl, (blk_cell BK117.out 0).trans rfl, (blk_cell BK117.out 1).trans rfl, (blk_cell BK117.out 2).trans rfl, (blk_cell BK117.out 3).trans rfl⟩ (fun hHeld => ?_)
          clear hK K
          refine norm_ (a' := ?_) ?_ ?_
          rotate_left
          · show Act.put _ (some 35) _ = _
            simp only [Act.put, List.setIfInBounds_toArray, List.set_cons_zero, List.set_cons_succ, i64_w, i32_w]
            rfl
          refine one_ (i := 3) (N := some 37) #[true, true, true, true, false, true, true, true, false, false, false, false, false, false, false, false, false, false, false, false, false, false, false, false, false, false, false, false, false, false, false, false, false, false] rfl rfl (one_of HT_.out (by kernel_rfl)) (by decide) (fun K hK => ?_)
          refine goes_ Try.func14 (by kernel_rfl) rfl #[.agg #[.int .i64 2, .int .i64 a1, .int .i64 0, .string (⟨#[]⟩ : ByteArray)]] (by rfl) rfl rfl (by (try simp only [List.map_toArray, List.map_cons, List.map_nil]); first | done | rfl | (simp only [List.length_drop, List.length_take]; rfl)) ?_
          with_reducible refine (key_Key.calls k 2 a1 0 (⟨#[]⟩ : ByteArray) t119 _ A14.out).mono ?_
          rintro e w43 ⟨rfl, hb⟩
          refine ⟨_, rfl, ?_⟩
          have n0_ := Aside0.mk (blk_below (g := gb102) (o := .cells #[.int .i64 2, .int .i64 a0, .int .i64 0, .string (⟨#[]⟩ : ByteArray)] 24 (0, 0)) (by (with_reducible repeat (first | refine blk_drewN ?_ _ | refine blk_drew ?_ | refine blk_alloc ?_ _)); exact BK102.out) hb)
          have n1_ := Aside0.mk (blk_below (g := gb103) (o := .cells #[.int .i64 2, .int .i64 a1, .int .i64 0, .string (⟨#[]⟩ : ByteArray)] 24 (0, 0)) (by (with_reducible repeat (first | refine blk_drewN ?_ _ | refine blk_drew ?_ | refine blk_alloc ?_ _)); exact BK103.out) hb)
          have n2_ := Aside0.mk (blk_below (g := gb110) (o := .cells #[.int .i64 t106, .int .i64 t107, .int .i64 t108, .string t109] 24 (0, 0)) (by (with_reducible repeat (first | refine blk_drewN ?_ _ | refine blk_drew ?_ | refine blk_alloc ?_ _)); exact BK110.out) hb)
          have n3_ := Aside0.mk (blk_below (g := gb117) (o := .cells #[.int .i64 t113, .int .i64 t114, .int .i64 t115, .string t116] 24 (0, 0)) (by (with_reducible repeat (first | refine blk_drewN ?_ _ | refine blk_drew ?_ | refine blk_alloc ?_ _)); exact BK117.out) hb)
          have n4_ := Aside0.mk (below_step (by repeat (first | (with_reducible first | exact HB.out | apply below_alloc | apply pw_below_drewN | apply below_drew1 | refine below_set ?_ GE102.out | refine below_set ?_ GE103.out | refine below_set ?_ GE110.out | refine below_set ?_ GE117.out) | exact HB.out)) hb)
          clear BK102
          clear BK103
          clear BK110
          clear BK117
          clear HB
          have BK102 := n0_
          have BK103 := n1_
          have BK110 := n2_
          have BK117 := n3_
          have HB := n4_
          clear n0_ n1_ n2_ n3_ n4_
          (try clear hb)
          (try clear hb2)
          (try clear hk)
          (try clear hi)
          refine hK.out _ _ ⟨(blk_cell BK102.out 0).trans rfl, (blk_cell BK102.out 1).trans rfl, (blk_cell BK102.out 2).trans rfl, (blk_cell BK102.out 3).trans rfl, (blk_cell BK103.out 0).trans rfl, (blk_cell BK103.out 1).trans rfl, (blk_cell BK103.out 2).trans rfl, (blk_cell BK103.out 3).trans rfl, (blk_cell BK110.out 0).trans rfl, (blk_cell BK110.out 1).trans rfl, (blk_cell BK110.out 2).trans rfl, (blk_cell BK110.out 3).trans rfl, (blk_cell BK117.out 0).trans rfl, (blk_cell BK117.out 1).trans rfl, (blk_cell BK117.out 2).trans rfl, (blk_cell BK117.out 3).trans rfl⟩ (fun hHeld => ?_)
          clear hK K
          refine norm_ (a' := ?_) ?_ ?_
          rotate_left
          · show Act.put _ (some 37) _ = _
            simp only [Act.put, List.setIfInBounds_toArray, List.set_cons_zero, List.set_cons_succ, i64_w, i32_w]
            rfl
          refine pure_ (i := 4) (N := some 38) (v := ?_) (a' := ?_) #[true, true, true, true, true, true, true, true, false, false, false, false, false, false, false, false, false, false, false, false, false, false, false, false, false, false, false, false, false, false, false, false, false, false] rfl rfl (any_of HT_.out (by kernel_rfl)) (fun _ _ _ h => h) (Or.inl ⟨by rfl, ?_⟩) ?_ ?_
          rotate_left
          · intro w'
            go_simp
            with_reducible rfl
          rotate_left
          · simp only [Act.put, List.setIfInBounds_toArray, List.set_cons_zero, List.set_cons_succ, i64_w, i32_w]
            rfl
          refine pure_ (i := 8) (N := some 42) (v := ?_) (a' := ?_) #[true, true, true, true, true, true, true, true, true, false, false, false, false, false, false, false, false, false, false, false, false, false, false, false, false, false, false, false, false, false, false, false, false, false] rfl rfl (any_of HT_.out (by kernel_rfl)) (fun _ _ _ h => h) (Or.inl ⟨by rfl, ?_⟩) ?_ ?_
          rotate_left
          · intro w'
            go_simp
            with_reducible rfl
          rotate_left
          · simp only [Act.put, List.setIfInBounds_toArray, List.set_cons_zero, List.set_cons_succ, i64_w, i32_w]
            rfl
          refine pure_ (i := 9) (N := some 43) (v := ?_) (a' := ?_) #[true, true, true, true, true, true, true, true, true, true, false, false, false, false, false, false, false, false, false, false, false, false, false, false, false, false, false, false, false, false, false, false, false, false] rfl rfl (any_of HT_.out (by kernel_rfl)) (fun _ _ _ h => h) (Or.inl ⟨by rfl, ?_⟩) ?_ ?_
          rotate_left
          · intro w'
            go_simp
            with_reducible rfl
          rotate_left
          · simp only [Act.put, List.setIfInBounds_toArray, List.set_cons_zero, List.set_cons_succ, i64_w, i32_w]
            rfl
          refine take_ (i := 10) (N := some 44) (v := ?_) (a' := ?_) #[true, true, true, true, true, true, true, true, true, true, true, false, false, false, false, false, false, false, false, false, false, false, false, false, false, false, false, false, false, false, false, false, false, false] rfl rfl (take_ofW HT_.out HW_.out (by kernel_rfl)) (fun _ _ _ h => h) (Or.inl ⟨by rfl, ?_⟩) hHeld ?_ ?_
          rotate_left
          · rintro w' ⟨s0, s1, s2, s3, s4, s5, s6, s7, s8, s9, s10, s11, s12, s13, s14, s15⟩
            go_simp
            with_reducible rfl
          rotate_left
          · simp only [Act.put, List.setIfInBounds_toArray, List.set_cons_zero, List.set_cons_succ, i64_w, i32_w]
            rfl
          refine one_ (i := 11) (N := some 45) #[true, true, true, true, true, true, true, true, true, true, true, true, false, false, false, false, false, false, false, false, false, false, false, false, false, false, false, false, false, false, false, false, false, false] rfl rfl (one_of HT_.out (by kernel_rfl)) (by decide) (fun K hK => ?_)
          refine goes_ Try.func14 (by kernel_rfl) rfl #[.agg #[.int .i64 2, .int .i64 a0, .int .i64 0, .string (⟨#[]⟩ : ByteArray)]] (by rfl) rfl rfl (by (try simp only [List.map_toArray, List.map_cons, List.map_nil]); first | done | rfl | (simp only [List.length_drop, List.length_take]; rfl)) ?_
          with_reducible refine (key_Key.calls k 2 a0 0 (⟨#[]⟩ : ByteArray) t120 _ A16.out).mono ?_
          rintro e w44 ⟨rfl, hb⟩
          refine ⟨_, rfl, ?_⟩
          have n0_ := Aside0.mk (blk_below (g := gb102) (o := .cells #[.int .i64 2, .int .i64 a0, .int .i64 0, .string (⟨#[]⟩ : ByteArray)] 24 (0, 0)) (by (with_reducible repeat (first | refine blk_drewN ?_ _ | refine blk_drew ?_ | refine blk_alloc ?_ _)); exact BK102.out) hb)
          have n1_ := Aside0.mk (blk_below (g := gb103) (o := .cells #[.int .i64 2, .int .i64 a1, .int .i64 0, .string (⟨#[]⟩ : ByteArray)] 24 (0, 0)) (by (with_reducible repeat (first | refine blk_drewN ?_ _ | refine blk_drew ?_ | refine blk_alloc ?_ _)); exact BK103.out) hb)
          have n2_ := Aside0.mk (blk_below (g := gb110) (o := .cells #[.int .i64 t106, .int .i64 t107, .int .i64 t108, .string t109] 24 (0, 0)) (by (with_reducible repeat (first | refine blk_drewN ?_ _ | refine blk_drew ?_ | refine blk_alloc ?_ _)); exact BK110.out) hb)
          have n3_ := Aside0.mk (blk_below (g := gb117) (o := .cells #[.int .i64 t113, .int .i64 t114, .int .i64 t115, .string t116] 24 (0, 0)) (by (with_reducible repeat (first | refine blk_drewN ?_ _ | refine blk_drew ?_ | refine blk_alloc ?_ _)); exact BK117.out) hb)
          have n4_ := Aside0.mk (below_step (by repeat (first | (with_reducible first | exact HB.out | apply below_alloc | apply pw_below_drewN | apply below_drew1 | refine below_set ?_ GE102.out | refine below_set ?_ GE103.out | refine below_set ?_ GE110.out | refine below_set ?_ GE117.out) | exact HB.out)) hb)
          clear BK102
          clear BK103
          clear BK110
          clear BK117
          clear HB
          have BK102 := n0_
          have BK103 := n1_
          have BK110 := n2_
          have BK117 := n3_
          have HB := n4_
          clear n0_ n1_ n2_ n3_ n4_
          (try clear hb)
          (try clear hb2)
          (try clear hk)
          (try clear hi)
          refine hK.out _ _ ⟨(blk_cell BK102.out 0).trans rfl, (blk_cell BK102.out 1).trans rfl, (blk_cell BK102.out 2).trans rfl, (blk_cell BK102.out 3).trans rfl, (blk_cell BK103.out 0).trans rfl, (blk_cell BK103.out 1).trans rfl, (blk_cell BK103.out 2).trans rfl, (blk_cell BK103.out 3).trans rfl, (blk_cell BK110.out 0).trans rfl, (blk_cell BK110.out 1).trans rfl, (blk_cell BK110.out 2).trans rfl, (blk_cell BK110.out 3).trans rfl, (blk_cell BK117.out 0).trans rfl, (blk_cell BK117.out 1).trans rfl, (blk_cell BK117.out 2).trans rfl, (blk_cell BK117.out 3).trans rfl⟩ (fun hHeld => ?_)
          clear hK K
          refine norm_ (a' := ?_) ?_ ?_
          rotate_left
          · show Act.put _ (some 45) _ = _
            simp only [Act.put, List.setIfInBounds_toArray, List.set_cons_zero, List.set_cons_succ, i64_w, i32_w]
            rfl
          refine pure_ (i := 12) (N := some 46) (v := ?_) (a' := ?_) #[true, true, true, true, true, true, true, true, true, true, true, true, true, false, false, false, false, false, false, false, false, false, false, false, false, false, false, false, false, false, false, false, false, false] rfl rfl (any_of HT_.out (by kernel_rfl)) (fun _ _ _ h => h) (Or.inl ⟨by rfl, ?_⟩) ?_ ?_
          rotate_left
          · intro w'
            go_simp
            with_reducible rfl
          rotate_left
          · simp only [Act.put, List.setIfInBounds_toArray, List.set_cons_zero, List.set_cons_succ, i64_w, i32_w]
            rfl
          refine pure_ (i := 13) (N := some 47) (v := ?_) (a' := ?_) #[true, true, true, true, true, true, true, true, true, true, true, true, true, true, false, false, false, false, false, false, false, false, false, false, false, false, false, false, false, false, false, false, false, false] rfl rfl (any_of HT_.out (by kernel_rfl)) (fun _ _ _ h => h) (Or.inl ⟨by rfl, ?_⟩) ?_ ?_
          rotate_left
          · intro w'
            go_simp
            with_reducible rfl
          rotate_left
          · simp only [Act.put, List.setIfInBounds_toArray, List.set_cons_zero, List.set_cons_succ, i64_w, i32_w]
            rfl
          refine pure_ (i := 14) (N := some 48) (v := ?_) (a' := ?_) #[true, true, true, true, true, true, true, true, true, true, true, true, true, true, true, false, false, false, false, false, false, false, false, false, false, false, false, false, false, false, false, false, false, false] rfl rfl (any_of HT_.out (by kernel_rfl)) (fun _ _ _ h => h) (Or.inl ⟨by rfl, ?_⟩) ?_ ?_
          rotate_left
          · intro w'
            go_simp
            with_reducible rfl
          rotate_left
          · simp only [Act.put, List.setIfInBounds_toArray, List.set_cons_zero, List.set_cons_succ, i64_w, i32_w]
            rfl
          refine pure_ (i := 15) (N := some 49) (v := ?_) (a' := ?_) #[true, true, true, true, true, true, true, true, true, true, true, true, true, true, true, true, false, false, false, false, false, false, false, false, false, false, false, false, false, false, false, false, false, false] rfl rfl (any_of HT_.out (by kernel_rfl)) (fun _ _ _ h => h) (Or.inl ⟨by rfl, ?_⟩) ?_ ?_
          rotate_left
          · intro w'
            go_simp
            with_reducible rfl
          rotate_left
          · simp only [Act.put, List.setIfInBounds_toArray, List.set_cons_zero, List.set_cons_succ, i64_w, i32_w]
            rfl
          refine take_ (i := 16) (N := some 50) (v := ?_) (a' := ?_) #[true, true, true, true, true, true, true, true, true, true, true, true, true, true, true, true, true, false, false, false, false, false, false, false, false, false, false, false, false, false, false, false, false, false] rfl rfl (take_ofW HT_.out HW_.out (by kernel_rfl)) (fun _ _ _ h => h) (Or.inl ⟨by rfl, ?_⟩) hHeld ?_ ?_
          rotate_left
          · rintro w' ⟨s0, s1, s2, s3, s4, s5, s6, s7, s8, s9, s10, s11, s12, s13, s14, s15⟩
            go_simp
            with_reducible rfl
          rotate_left
          · simp only [Act.put, List.setIfInBounds_toArray, List.set_cons_zero, List.set_cons_succ, i64_w, i32_w]
            rfl
          refine one_ (i := 17) (N := some 51) #[true, true, true, true, true, true, true, true, true, true, true, true, true, true, true, true, true, true, false, false, false, false, false, false, false, false, false, false, false, false, false, false, false, false] rfl rfl (one_of HT_.out (by kernel_rfl)) (by decide) (fun K hK => ?_)
          refine goes_ Try.func14 (by kernel_rfl) rfl #[.agg #[.int .i64 t106, .int .i64 t107, .int .i64 t108, .string t109]] (by rfl) rfl rfl (by (try simp only [List.map_toArray, List.map_cons, List.map_nil]); first | done | rfl | (simp only [List.length_drop, List.length_take]; rfl)) ?_
          with_reducible refine (key_Key.calls k t106 t107 t108 t109 t121 _ A18.out).mono ?_
          rintro e w45 ⟨rfl, hb⟩
          refine ⟨_, rfl, ?_⟩
          have n0_ := Aside0.mk (blk_below (g := gb102) (o := .cells #[.int .i64 2, .int .i64 a0, .int .i64 0, .string (⟨#[]⟩ : ByteArray)] 24 (0, 0)) (by (with_reducible repeat (first | refine blk_drewN ?_ _ | refine blk_drew ?_ | refine blk_alloc ?_ _)); exact BK102.out) hb)
          have n1_ := Aside0.mk (blk_below (g := gb103) (o := .cells #[.int .i64 2, .int .i64 a1, .int .i64 0, .string (⟨#[]⟩ : ByteArray)] 24 (0, 0)) (by (with_reducible repeat (first | refine blk_drewN ?_ _ | refine blk_drew ?_ | refine blk_alloc ?_ _)); exact BK103.out) hb)
          have n2_ := Aside0.mk (blk_below (g := gb110) (o := .cells #[.int .i64 t106, .int .i64 t107, .int .i64 t108, .string t109] 24 (0, 0)) (by (with_reducible repeat (first | refine blk_drewN ?_ _ | refine blk_drew ?_ | refine blk_alloc ?_ _)); exact BK110.out) hb)
          have n3_ := Aside0.mk (blk_below (g := gb117) (o := .cells #[.int .i64 t113, .int .i64 t114, .int .i64 t115, .string t116] 24 (0, 0)) (by (with_reducible repeat (first | refine blk_drewN ?_ _ | refine blk_drew ?_ | refine blk_alloc ?_ _)); exact BK117.out) hb)
          have n4_ := Aside0.mk (below_step (by repeat (first | (with_reducible first | exact HB.out | apply below_alloc | apply pw_below_drewN | apply below_drew1 | refine below_set ?_ GE102.out | refine below_set ?_ GE103.out | refine below_set ?_ GE110.out | refine below_set ?_ GE117.out) | exact HB.out)) hb)
          clear BK102
          clear BK103
          clear BK110
          clear BK117
          clear HB
          have BK102 := n0_
          have BK103 := n1_
          have BK110 := n2_
          have BK117 := n3_
          have HB := n4_
          clear n0_ n1_ n2_ n3_ n4_
          (try clear hb)
          (try clear hb2)
          (try clear hk)
          (try clear hi)
          refine hK.out _ _ ⟨(blk_cell BK102.out 0).trans rfl, (blk_cell BK102.out 1).trans rfl, (blk_cell BK102.out 2).trans rfl, (blk_cell BK102.out 3).trans rfl, (blk_cell BK103.out 0).trans rfl, (blk_cell BK103.out 1).trans rfl, (blk_cell BK103.out 2).trans rfl, (blk_cell BK103.out 3).trans rfl, (blk_cell BK110.out 0).trans rfl, (blk_cell BK110.out 1).trans rfl, (blk_cell BK110.out 2).trans rfl, (blk_cell BK110.out 3).trans rfl, (blk_cell BK117.out 0).trans rfl, (blk_cell BK117.out 1).trans rfl, (blk_cell BK117.out 2).trans rfl, (blk_cell BK117.out 3).trans rfl⟩ (fun hHeld => ?_)
          clear hK K
          refine norm_ (a' := ?_) ?_ ?_
          rotate_left
          · show Act.put _ (some 51) _ = _
            simp only [Act.put, List.setIfInBounds_toArray, List.set_cons_zero, List.set_cons_succ, i64_w, i32_w]
            rfl
          refine pure_ (i := 18) (N := some 52) (v := ?_) (a' := ?_) #[true, true, true, true, true, true, true, true, true, true, true, true, true, true, true, true, true, true, true, false, false, false, false, false, false, false, false, false, false, false, false, false, false, false] rfl rfl (any_of HT_.out (by kernel_rfl)) (fun _ _ _ h => h) (Or.inl ⟨by rfl, ?_⟩) ?_ ?_
          rotate_left
          · intro w'
            go_simp
            with_reducible rfl
          rotate_left
          · simp only [Act.put, List.setIfInBounds_toArray, List.set_cons_zero, List.set_cons_succ, i64_w, i32_w]
            rfl
          refine pure_ (i := 19) (N := some 53) (v := ?_) (a' := ?_) #[true, true, true, true, true, true, true, true, true, true, true, true, true, true, true, true, true, true, true, true, false, false, false, false, false, false, false, false, false, false, false, false, false, false] rfl rfl (any_of HT_.out (by kernel_rfl)) (fun _ _ _ h => h) (Or.inl ⟨by rfl, ?_⟩) ?_ ?_
          rotate_left
          · intro w'
            go_simp
            with_reducible rfl
          rotate_left
          · simp only [Act.put, List.setIfInBounds_toArray, List.set_cons_zero, List.set_cons_succ, i64_w, i32_w]
            rfl
          refine pure_ (i := 20) (N := some 54) (v := ?_) (a' := ?_) #[true, true, true, true, true, true, true, true, true, true, true, true, true, true, true, true, true, true, true, true, true, false, false, false, false, false, false, false, false, false, false, false, false, false] rfl rfl (any_of HT_.out (by kernel_rfl)) (fun _ _ _ h => h) (Or.inl ⟨by rfl, ?_⟩) ?_ ?_
          rotate_left
          · intro w'
            go_simp
            with_reducible rfl
          rotate_left
          · simp only [Act.put, List.setIfInBounds_toArray, List.set_cons_zero, List.set_cons_succ, i64_w, i32_w]
            rfl
          refine pure_ (i := 21) (N := some 55) (v := ?_) (a' := ?_) #[true, true, true, true, true, true, true, true, true, true, true, true, true, true, true, true, true, true, true, true, true, true, false, false, false, false, false, false, false, false, false, false, false, false] rfl rfl (any_of HT_.out (by kernel_rfl)) (fun _ _ _ h => h) (Or.inl ⟨by rfl, ?_⟩) ?_ ?_
          rotate_left
          · intro w'
            go_simp
            with_reducible rfl
          rotate_left
          · simp only [Act.put, List.setIfInBounds_toArray, List.set_cons_zero, List.set_cons_succ, i64_w, i32_w]
            rfl
          refine take_ (i := 22) (N := some 56) (v := ?_) (a' := ?_) #[true, true, true, true, true, true, true, true, true, true, true, true, true, true, true, true, true, true, true, true, true, true, true, false, false, false, false, false, false, false, false, false, false, false] rfl rfl (take_ofW HT_.out HW_.out (by kernel_rfl)) (fun _ _ _ h => h) (Or.inl ⟨by rfl, ?_⟩) hHeld ?_ ?_
          rotate_left
          · rintro w' ⟨s0, s1, s2, s3, s4, s5, s6, s7, s8, s9, s10, s11, s12, s13, s14, s15⟩
            go_simp
            with_reducible rfl
          rotate_left
          · simp only [Act.put, List.setIfInBounds_toArray, List.set_cons_zero, List.set_cons_succ, i64_w, i32_w]
            rfl
          refine take_ (i := 24) (N := some 58) (v := ?_) (a' := ?_) #[true, true, true, true, true, true, true, true, true, true, true, true, true, true, true, true, true, true, true, true, true, true, true, false, true, false, false, false, false, false, false, false, false, false] rfl rfl (take_ofW HT_.out HW_.out (by kernel_rfl)) (fun _ _ _ h => h) (Or.inl ⟨by rfl, ?_⟩) hHeld ?_ ?_
          rotate_left
          · rintro w' ⟨s0, s1, s2, s3, s4, s5, s6, s7, s8, s9, s10, s11, s12, s13, s14, s15⟩
            go_simp
            with_reducible rfl
          rotate_left
          · simp only [Act.put, List.setIfInBounds_toArray, List.set_cons_zero, List.set_cons_succ, i64_w, i32_w]
            rfl
          refine take_ (i := 27) (N := some 61) (v := ?_) (a' := ?_) #[true, true, true, true, true, true, true, true, true, true, true, true, true, true, true, true, true, true, true, true, true, true, true, false, true, false, false, true, false, false, false, false, false, false] rfl rfl (take_ofW HT_.out HW_.out (by kernel_rfl)) (fun _ _ _ h => h) (Or.inl ⟨by rfl, ?_⟩) hHeld ?_ ?_
          rotate_left
          · rintro w' ⟨s0, s1, s2, s3, s4, s5, s6, s7, s8, s9, s10, s11, s12, s13, s14, s15⟩
            go_simp
            with_reducible rfl
          rotate_left
          · simp only [Act.put, List.setIfInBounds_toArray, List.set_cons_zero, List.set_cons_succ, i64_w, i32_w]
            rfl
          refine take_ (i := 28) (N := some 62) (v := ?_) (a' := ?_) #[true, true, true, true, true, true, true, true, true, true, true, true, true, true, true, true, true, true, true, true, true, true, true, false, true, false, false, true, true, false, false, false, false, false] rfl rfl (take_ofW HT_.out HW_.out (by kernel_rfl)) (fun _ _ _ h => h) (Or.inl ⟨by rfl, ?_⟩) hHeld ?_ ?_
          rotate_left
          · rintro w' ⟨s0, s1, s2, s3, s4, s5, s6, s7, s8, s9, s10, s11, s12, s13, s14, s15⟩
            go_simp
            with_reducible rfl
          rotate_left
          · simp only [Act.put, List.setIfInBounds_toArray, List.set_cons_zero, List.set_cons_succ, i64_w, i32_w]
            rfl
          refine one_ (i := 23) (N := some 57) #[true, true, true, true, true, true, true, true, true, true, true, true, true, true, true, true, true, true, true, true, true, true, true, true, true, false, false, true, true, false, false, false, false, false] rfl rfl (one_of HT_.out (by kernel_rfl)) (by decide) (fun K hK => ?_)
          refine goes_ Try.func14 (by kernel_rfl) rfl #[.agg #[.int .i64 t106, .int .i64 t107, .int .i64 t108, .string t109]] (by rfl) rfl rfl (by (try simp only [List.map_toArray, List.map_cons, List.map_nil]); first | done | rfl | (simp only [List.length_drop, List.length_take]; rfl)) ?_
          with_reducible refine (key_Key.calls k t106 t107 t108 t109 t122 _ A20.out).mono ?_
          rintro e w46 ⟨rfl, hb⟩
          refine ⟨_, rfl, ?_⟩
          have n0_ := Aside0.mk (blk_below (g := gb102) (o := .cells #[.int .i64 2, .int .i64 a0, .int .i64 0, .string (⟨#[]⟩ : ByteArray)] 24 (0, 0)) (by (with_reducible repeat (first | refine blk_drewN ?_ _ | refine blk_drew ?_ | refine blk_alloc ?_ _)); exact BK102.out) hb)
          have n1_ := Aside0.mk (blk_below (g := gb103) (o := .cells #[.int .i64 2, .int .i64 a1, .int .i64 0, .string (⟨#[]⟩ : ByteArray)] 24 (0, 0)) (by (with_reducible repeat (first | refine blk_drewN ?_ _ | refine blk_drew ?_ | refine blk_alloc ?_ _)); exact BK103.out) hb)
          have n2_ := Aside0.mk (blk_below (g := gb110) (o := .cells #[.int .i64 t106, .int .i64 t107, .int .i64 t108, .string t109] 24 (0, 0)) (by (with_reducible repeat (first | refine blk_drewN ?_ _ | refine blk_drew ?_ | refine blk_alloc ?_ _)); exact BK110.out) hb)
          have n3_ := Aside0.mk (blk_below (g := gb117) (o := .cells #[.int .i64 t113, .int .i64 t114, .int .i64 t115, .string t116] 24 (0, 0)) (by (with_reducible repeat (first | refine blk_drewN ?_ _ | refine blk_drew ?_ | refine blk_alloc ?_ _)); exact BK117.out) hb)
          have n4_ := Aside0.mk (below_step (by repeat (first | (with_reducible first | exact HB.out | apply below_alloc | apply pw_below_drewN | apply below_drew1 | refine below_set ?_ GE102.out | refine below_set ?_ GE103.out | refine below_set ?_ GE110.out | refine below_set ?_ GE117.out) | exact HB.out)) hb)
          clear BK102
          clear BK103
          clear BK110
          clear BK117
          clear HB
          have BK102 := n0_
          have BK103 := n1_
          have BK110 := n2_
          have BK117 := n3_
          have HB := n4_
          clear n0_ n1_ n2_ n3_ n4_
          (try clear hb)
          (try clear hb2)
          (try clear hk)
          (try clear hi)
          refine hK.out _ _ ⟨(blk_cell BK102.out 0).trans rfl, (blk_cell BK102.out 1).trans rfl, (blk_cell BK102.out 2).trans rfl, (blk_cell BK102.out 3).trans rfl, (blk_cell BK103.out 0).trans rfl, (blk_cell BK103.out 1).trans rfl, (blk_cell BK103.out 2).trans rfl, (blk_cell BK103.out 3).trans rfl, (blk_cell BK110.out 0).trans rfl, (blk_cell BK110.out 1).trans rfl, (blk_cell BK110.out 2).trans rfl, (blk_cell BK110.out 3).trans rfl, (blk_cell BK117.out 0).trans rfl, (blk_cell BK117.out 1).trans rfl, (blk_cell BK117.out 2).trans rfl, (blk_cell BK117.out 3).trans rfl⟩ (fun hHeld => ?_)
          clear hK K
          refine norm_ (a' := ?_) ?_ ?_
          rotate_left
          · show Act.put _ (some 57) _ = _
            simp only [Act.put, List.setIfInBounds_toArray, List.set_cons_zero, List.set_cons_succ, i64_w, i32_w]
            rfl
          refine one_ (i := 25) (N := some 59) #[true, true, true, true, true, true, true, true, true, true, true, true, true, true, true, true, true, true, true, true, true, true, true, true, true, true, false, true, true, false, false, false, false, false] rfl rfl (one_of HT_.out (by kernel_rfl)) (by decide) (fun K hK => ?_)
          refine goes_ Try.func14 (by kernel_rfl) rfl #[.agg #[.int .i64 t113, .int .i64 t114, .int .i64 t115, .string t116]] (by rfl) rfl rfl (by (try simp only [List.map_toArray, List.map_cons, List.map_nil]); first | done | rfl | (simp only [List.length_drop, List.length_take]; rfl)) ?_
          with_reducible refine (key_Key.calls k t113 t114 t115 t116 t123 _ A21.out).mono ?_
          rintro e w47 ⟨rfl, hb⟩
          refine ⟨_, rfl, ?_⟩
          have n0_ := Aside0.mk (blk_below (g := gb102) (o := .cells #[.int .i64 2, .int .i64 a0, .int .i64 0, .string (⟨#[]⟩ : ByteArray)] 24 (0, 0)) (by (with_reducible repeat (first | refine blk_drewN ?_ _ | refine blk_drew ?_ | refine blk_alloc ?_ _)); exact BK102.out) hb)
          have n1_ := Aside0.mk (blk_below (g := gb103) (o := .cells #[.int .i64 2, .int .i64 a1, .int .i64 0, .string (⟨#[]⟩ : ByteArray)] 24 (0, 0)) (by (with_reducible repeat (first | refine blk_drewN ?_ _ | refine blk_drew ?_ | refine blk_alloc ?_ _)); exact BK103.out) hb)
          have n2_ := Aside0.mk (blk_below (g := gb110) (o := .cells #[.int .i64 t106, .int .i64 t107, .int .i64 t108, .string t109] 24 (0, 0)) (by (with_reducible repeat (first | refine blk_drewN ?_ _ | refine blk_drew ?_ | refine blk_alloc ?_ _)); exact BK110.out) hb)
          have n3_ := Aside0.mk (blk_below (g := gb117) (o := .cells #[.int .i64 t113, .int .i64 t114, .int .i64 t115, .string t116] 24 (0, 0)) (by (with_reducible repeat (first | refine blk_drewN ?_ _ | refine blk_drew ?_ | refine blk_alloc ?_ _)); exact BK117.out) hb)
          have n4_ := Aside0.mk (below_step (by repeat (first | (with_reducible first | exact HB.out | apply below_alloc | apply pw_below_drewN | apply below_drew1 | refine below_set ?_ GE102.out | refine below_set ?_ GE103.out | refine below_set ?_ GE110.out | refine below_set ?_ GE117.out) | exact HB.out)) hb)
          clear BK102
          clear BK103
          clear BK110
          clear BK117
          clear HB
          have BK102 := n0_
          have BK103 := n1_
          have BK110 := n2_
          have BK117 := n3_
          have HB := n4_
          clear n0_ n1_ n2_ n3_ n4_
          (try clear hb)
          (try clear hb2)
          (try clear hk)
          (try clear hi)
          refine hK.out _ _ ⟨(blk_cell BK102.out 0).trans rfl, (blk_cell BK102.out 1).trans rfl, (blk_cell BK102.out 2).trans rfl, (blk_cell BK102.out 3).trans rfl, (blk_cell BK103.out 0).trans rfl, (blk_cell BK103.out 1).trans rfl, (blk_cell BK103.out 2).trans rfl, (blk_cell BK103.out 3).trans rfl, (blk_cell BK110.out 0).trans rfl, (blk_cell BK110.out 1).trans rfl, (blk_cell BK110.out 2).trans rfl, (blk_cell BK110.out 3).trans rfl, (blk_cell BK117.out 0).trans rfl, (blk_cell BK117.out 1).trans rfl, (blk_cell BK117.out 2).trans rfl, (blk_cell BK117.out 3).trans rfl⟩ (fun hHeld => ?_)
          clear hK K
          refine norm_ (a' := ?_) ?_ ?_
          rotate_left
          · show Act.put _ (some 59) _ = _
            simp only [Act.put, List.setIfInBounds_toArray, List.set_cons_zero, List.set_cons_succ, i64_w, i32_w]
            rfl
          refine pure_ (i := 26) (N := some 60) (v := ?_) (a' := ?_) #[true, true, true, true, true, true, true, true, true, true, true, true, true, true, true, true, true, true, true, true, true, true, true, true, true, true, true, true, true, false, false, false, false, false] rfl rfl (any_of HT_.out (by kernel_rfl)) (fun _ _ _ h => h) (Or.inl ⟨by rfl, ?_⟩) ?_ ?_
          rotate_left
          · intro w'
            go_simp
            with_reducible rfl
          rotate_left
          · simp only [Act.put, List.setIfInBounds_toArray, List.set_cons_zero, List.set_cons_succ, i64_w, i32_w]
            rfl
          refine one_ (i := 29) (N := some 63) #[true, true, true, true, true, true, true, true, true, true, true, true, true, true, true, true, true, true, true, true, true, true, true, true, true, true, true, true, true, true, false, false, false, false] rfl rfl (one_of HT_.out (by kernel_rfl)) (by decide) (fun K hK => ?_)
          refine goes_ Try.func18 (by kernel_rfl) rfl #[.agg #[.int .i64 t106, .int .i64 t107, .int .i64 t108, .string t109], .agg #[.int .i64 t113, .int .i64 t114, .int .i64 t115, .string t116]] (by rfl) rfl rfl (by (try simp only [List.map_toArray, List.map_cons, List.map_nil]); first | done | rfl | (simp only [List.length_drop, List.length_take]; rfl)) ?_
          with_reducible refine (federationref1_Order.calls k t106 t107 t108 t109 t113 t114 t115 t116 t124 _ A22.out).mono ?_
          rintro e w48 ⟨rfl, hb⟩
          refine ⟨_, rfl, ?_⟩
          have n0_ := Aside0.mk (blk_below (g := gb102) (o := .cells #[.int .i64 2, .int .i64 a0, .int .i64 0, .string (⟨#[]⟩ : ByteArray)] 24 (0, 0)) (by (with_reducible repeat (first | refine blk_drewN ?_ _ | refine blk_drew ?_ | refine blk_alloc ?_ _)); exact BK102.out) hb)
          have n1_ := Aside0.mk (blk_below (g := gb103) (o := .cells #[.int .i64 2, .int .i64 a1, .int .i64 0, .string (⟨#[]⟩ : ByteArray)] 24 (0, 0)) (by (with_reducible repeat (first | refine blk_drewN ?_ _ | refine blk_drew ?_ | refine blk_alloc ?_ _)); exact BK103.out) hb)
          have n2_ := Aside0.mk (blk_below (g := gb110) (o := .cells #[.int .i64 t106, .int .i64 t107, .int .i64 t108, .string t109] 24 (0, 0)) (by (with_reducible repeat (first | refine blk_drewN ?_ _ | refine blk_drew ?_ | refine blk_alloc ?_ _)); exact BK110.out) hb)
          have n3_ := Aside0.mk (blk_below (g := gb117) (o := .cells #[.int .i64 t113, .int .i64 t114, .int .i64 t115, .string t116] 24 (0, 0)) (by (with_reducible repeat (first | refine blk_drewN ?_ _ | refine blk_drew ?_ | refine blk_alloc ?_ _)); exact BK117.out) hb)
          have n4_ := Aside0.mk (below_step (by repeat (first | (with_reducible first | exact HB.out | apply below_alloc | apply pw_below_drewN | apply below_drew1 | refine below_set ?_ GE102.out | refine below_set ?_ GE103.out | refine below_set ?_ GE110.out | refine below_set ?_ GE117.out) | exact HB.out)) hb)
          clear BK102
          clear BK103
          clear BK110
          clear BK117
          clear HB
          have BK102 := n0_
          have BK103 := n1_
          have BK110 := n2_
          have BK117 := n3_
          have HB := n4_
          clear n0_ n1_ n2_ n3_ n4_
          (try clear hb)
          (try clear hb2)
          (try clear hk)
          (try clear hi)
          refine hK.out _ _ ⟨(blk_cell BK102.out 0).trans rfl, (blk_cell BK102.out 1).trans rfl, (blk_cell BK102.out 2).trans rfl, (blk_cell BK102.out 3).trans rfl, (blk_cell BK103.out 0).trans rfl, (blk_cell BK103.out 1).trans rfl, (blk_cell BK103.out 2).trans rfl, (blk_cell BK103.out 3).trans rfl, (blk_cell BK110.out 0).trans rfl, (blk_cell BK110.out 1).trans rfl, (blk_cell BK110.out 2).trans rfl, (blk_cell BK110.out 3).trans rfl, (blk_cell BK117.out 0).trans rfl, (blk_cell BK117.out 1).trans rfl, (blk_cell BK117.out 2).trans rfl, (blk_cell BK117.out 3).trans rfl⟩ (fun hHeld => ?_)
          clear hK K
          refine norm_ (a' := ?_) ?_ ?_
          rotate_left
          · show Act.put _ (some 63) _ = _
            simp only [Act.put, List.setIfInBounds_toArray, List.set_cons_zero, List.set_cons_succ, i64_w, i32_w]
            rfl
          refine pure_ (i := 30) (N := some 64) (v := ?_) (a' := ?_) #[true, true, true, true, true, true, true, true, true, true, true, true, true, true, true, true, true, true, true, true, true, true, true, true, true, true, true, true, true, true, true, false, false, false] rfl rfl (any_of HT_.out (by kernel_rfl)) (fun _ _ _ h => h) (Or.inl ⟨by rfl, ?_⟩) ?_ ?_
          rotate_left
          · intro w'
            go_simp
            with_reducible rfl
          rotate_left
          · simp only [Act.put, List.setIfInBounds_toArray, List.set_cons_zero, List.set_cons_succ, i64_w, i32_w]
            rfl
          refine pure_ (i := 31) (N := some 65) (v := ?_) (a' := ?_) #[true, true, true, true, true, true, true, true, true, true, true, true, true, true, true, true, true, true, true, true, true, true, true, true, true, true, true, true, true, true, true, true, false, false] rfl rfl (any_of HT_.out (by kernel_rfl)) (fun _ _ _ h => h) (Or.inl ⟨by rfl, ?_⟩) ?_ ?_
          rotate_left
          · intro w'
            go_simp
            with_reducible rfl
          rotate_left
          · simp only [Act.put, List.setIfInBounds_toArray, List.set_cons_zero, List.set_cons_succ, i64_w, i32_w]
            rfl
          refine pure_ (i := 32) (N := some 66) (v := ?_) (a' := ?_) #[true, true, true, true, true, true, true, true, true, true, true, true, true, true, true, true, true, true, true, true, true, true, true, true, true, true, true, true, true, true, true, true, true, false] rfl rfl (any_of HT_.out (by kernel_rfl)) (fun _ _ _ h => h) (Or.inl ⟨by rfl, ?_⟩) ?_ ?_
          rotate_left
          · intro w'
            go_simp
            with_reducible rfl
          rotate_left
          · simp only [Act.put, List.setIfInBounds_toArray, List.set_cons_zero, List.set_cons_succ, i64_w, i32_w]
            rfl
          refine pure_ (i := 33) (N := some 8) (v := ?_) (a' := ?_) #[true, true, true, true, true, true, true, true, true, true, true, true, true, true, true, true, true, true, true, true, true, true, true, true, true, true, true, true, true, true, true, true, true, true] rfl rfl (any_of HT_.out (by kernel_rfl)) (fun _ _ _ h => h) (Or.inl ⟨by rfl, ?_⟩) ?_ ?_
          rotate_left
          · intro w'
            go_simp
            with_reducible rfl
          rotate_left
          · simp only [Act.put, List.setIfInBounds_toArray, List.set_cons_zero, List.set_cons_succ, i64_w, i32_w]
            rfl
          refine done_ (done_of HT_.out (by kernel_rfl)) ?_
          try go_wp2
          go_ret
          exact ⟨by first | rfl | (simp [errW_none, errW_some] <;> rfl) | (simp [*, errW_none, errW_some] <;> rfl), by repeat (first | (with_reducible first | exact HB.out | apply below_alloc | apply pw_below_drewN | apply below_drew1 | refine below_set ?_ GE102.out | refine below_set ?_ GE103.out | refine below_set ?_ GE110.out | refine below_set ?_ GE117.out) | exact HB.out)⟩
        · rw [if_neg c19] at H
          exact absurd H (by simp)
      · rw [if_neg c17] at H
        exact absurd H (by simp)
    · rw [if_neg c15] at H
      exact absurd H (by simp)
  · replace c6 := Bool.eq_false_iff.mpr c6
    subst c6
    have H1 : (none) = some r := by rw [if_neg (show ¬ (false = true) by decide)] at H; exact H
    clear H
    have H := H1
    clear H1
    exact absurd H (by simp)
def federationlaw2_KeyInts.Pure : Prop := ∀ (a0 : Int) (a1 : Int) (a2 : Int) (a3 : Int), (Lit.int .i64 a0).wf = true → (Lit.int .i64 a1).wf = true → (Lit.int .i64 a2).wf = true → (Lit.int .i64 a3).wf = true → ∃ k, federationlaw2_KeyInts.f k a0 a1 a2 a3 = some true
theorem federationlaw2_KeyInts.walk (P : federationlaw2_KeyInts.Pure) (a0 : Int) (a1 : Int) (a2 : Int) (a3 : Int) (w : World) (w0 : (Lit.int .i64 a0).wf = true) (w1 : (Lit.int .i64 a1).wf = true) (w2 : (Lit.int .i64 a2).wf = true) (w3 : (Lit.int .i64 a3).wf = true) :
    Calls Try.prog 6 #[.int .i64 a0, .int .i64 a1, .int .i64 a2, .int .i64 a3] w fun e w' => e = .returned (.bool true) ∧ Below w.heap.size w w' := by
  obtain ⟨k, h⟩ := P a0 a1 a2 a3 w0 w1 w2 w3
  refine (federationlaw2_KeyInts.calls k a0 a1 a2 a3 true w h).mono ?_
  rintro e w' ⟨rfl, hd⟩
  exact ⟨rfl, hd⟩
end Go.Proofs.Ytjacflmgbmfhcaa.K
namespace Go.Proofs.Ytjacflmgbmfhcaa.K
open Go.RowKit Go.Proofs.YtjacflmgbmfhcaaW.PrintWords Go.Proofs.YtjacflmgbmfhcaaW.PrintLast Go.Proofs.YtjacflmgbmfhcaaW.PrintMore
attribute [local go_sem] max2_int min2_int max_two min_two max_three min_three max_four min_four
attribute [local go_sem high] own_gtr own_leq own_geq own_cell_set Option.map_some fld24_3
set_option linter.unusedVariables false
set_option linter.unusedSimpArgs false
def p256 (n : Nat) : Int := (256 : Int) ^ n
theorem p256_pos (n : Nat) : 0 < p256 n := Int.pow_pos (by decide)
theorem p256_zero : p256 0 = 1 := rfl
theorem p256_succ (n : Nat) : p256 (n + 1) = p256 n * 256 := by unfold p256; rw [Int.pow_succ]
def be (n : Int) : Nat → List Int
  | 0 => []
  | k + 1 => (n / p256 k) % 256 :: be n k
theorem be_len (n : Int) : ∀ k, (be n k).length = k
  | 0 => rfl
  | k + 1 => by simp [be, be_len n k]
def isB (l : List Int) : Prop := ∀ x ∈ l, 0 ≤ x ∧ x < 256
theorem isB_nil : isB [] := fun _ h => by cases h
theorem isB_cons {x : Int} {l : List Int} (h : 0 ≤ x ∧ x < 256) (hl : isB l) : isB (x :: l) := by
  intro y hy
  rcases List.mem_cons.1 hy with rfl | hy
  · exact h
  · exact hl _ hy
theorem isB_tail {x : Int} {l : List Int} (h : isB (x :: l)) : isB l := fun y hy => h y (List.mem_cons_of_mem _ hy)
theorem isB_head {x : Int} {l : List Int} (h : isB (x :: l)) : 0 ≤ x ∧ x < 256 := h x List.mem_cons_self
theorem isB_append {l m : List Int} (h : isB l) (k : isB m) : isB (l ++ m) := by
  intro y hy
  rcases List.mem_append.1 hy with hy | hy
  · exact h y hy
  · exact k y hy
theorem be_isB (n : Int) : ∀ k, isB (be n k)
  | 0 => isB_nil
  | k + 1 => isB_cons ⟨Int.emod_nonneg _ (by decide), Int.emod_lt_of_pos _ (by decide)⟩ (be_isB n k)
theorem be_add (n m : Int) : ∀ k j, be (n + m * (p256 k * p256 j)) k = be n k
  | 0, _ => rfl
  | k + 1, j => by
    have h := be_add n m k (j + 1)
    have e : p256 (k + 1) * p256 j = p256 k * p256 (j + 1) := by rw [p256_succ, p256_succ, Int.mul_assoc, Int.mul_comm 256]
    simp only [be]
    rw [e, h]
    have d : (n + m * (p256 k * p256 (j + 1))) / p256 k = n / p256 k + m * p256 (j + 1) := by
      rw [show n + m * (p256 k * p256 (j + 1)) = n + p256 k * (m * p256 (j + 1)) by rw [← Int.mul_assoc, Int.mul_comm m, Int.mul_assoc], Int.add_mul_ediv_left _ _ (by have := p256_pos k; omega)]
    rw [d, p256_succ, ← Int.mul_assoc]
    congr 1
    omega
def num256 (l : List Int) : Int := l.foldl (fun a b => a * 256 + b) 0
theorem foldl256 : ∀ (l : List Int) (a : Int), l.foldl (fun a b => a * 256 + b) a = a * p256 l.length + num256 l
  | [], a => by simp [num256, p256_zero]
  | x :: l, a => by
    unfold num256
    simp only [List.foldl_cons, List.length_cons]
    rw [foldl256 l (a * 256 + x), foldl256 l (0 * 256 + x), p256_succ, Int.add_mul, Int.mul_assoc, Int.mul_comm 256, Int.zero_mul, Int.zero_add, Int.add_assoc]
theorem num256_cons (x : Int) (l : List Int) : num256 (x :: l) = x * p256 l.length + num256 l := by
  have := foldl256 l (0 * 256 + x)
  rw [Int.zero_mul, Int.zero_add] at this
  unfold num256
  simp only [List.foldl_cons]
  rw [Int.zero_mul, Int.zero_add, this]
  rfl
theorem num256_be (n : Int) : ∀ k, num256 (be n k) = n % p256 k
  | 0 => by simp [be, num256, p256_zero, Int.emod_one]
  | k + 1 => by
    simp only [be]
    rw [num256_cons, be_len, num256_be n k, p256_succ]
    have h := p256_pos k
    have h1 := Int.emod_lt_of_pos n h
    have h2 := Int.emod_nonneg n (show p256 k ≠ 0 by omega)
    have h3 := Int.mul_ediv_add_emod n (p256 k)
    have h4 := Int.mul_ediv_add_emod (n / p256 k) 256
    have h5 := Int.emod_lt_of_pos (n / p256 k) (show (0 : Int) < 256 by decide)
    have h6 := Int.emod_nonneg (n / p256 k) (show (256 : Int) ≠ 0 by decide)
    generalize n / p256 k % 256 = b at *
    have h7 : b * p256 k ≤ 255 * p256 k := Int.mul_le_mul_of_nonneg_right (by omega) (Int.le_of_lt h)
    have h8 : 0 ≤ b * p256 k := Int.mul_nonneg h6 (Int.le_of_lt h)
    refine (((Int.ediv_emod_unique (a := n) (r := b * p256 k + n % p256 k) (q := n / p256 k / 256) (b := p256 k * 256) (by omega)).2 ⟨?_, by omega, by omega⟩).2).symm
    have h9 : p256 k * 256 * (n / p256 k / 256) = p256 k * (256 * (n / p256 k / 256)) := Int.mul_assoc _ _ _
    have h10 : p256 k * (n / p256 k) = p256 k * (256 * (n / p256 k / 256)) + b * p256 k := by
      rw [Int.mul_comm b, ← Int.mul_add, h4]
    omega
theorem shr8 (n : Int) (j : Nat) (h : j ≤ 8) : shr .i64 n ((8 * j : Nat) : Int) = n / p256 j := by
  have hb : IntKind.i64.bits = 64 := rfl
  unfold shr p256
  rw [hb, Int.toNat_natCast, Nat.min_eq_left (by omega), Int.pow_mul]
  rfl
theorem key_number_l0 (n : Int) : ∀ (j k : Nat) (acc : List Int), j < k → j ≤ 8 → acc.length + j ≤ 100 → key_number.l0 k n acc (8 * (j : Int) - 8) = some (acc ++ be n j)
  | 0, k, acc, hk, hj, ha => by
    obtain ⟨k, rfl⟩ : ∃ m, k = m + 1 := ⟨k - 1, by omega⟩
    simp only [key_number.l0]; rw [if_neg (by omega), be, List.append_nil]
  | j + 1, k, acc, hk, hj, ha => by
    obtain ⟨k, rfl⟩ : ∃ m, k = m + 1 := ⟨k - 1, by omega⟩
    have e : 8 * ((j + 1 : Nat) : Int) - 8 = ((8 * j : Nat) : Int) := by omega
    simp only [key_number.l0]
    rw [e, if_pos (by omega), if_pos (by omega), if_pos (by omega), shr8 n j (by omega), wrap64_of (by omega) (by omega)]
    have := key_number_l0 n j k (acc ++ [n / p256 j % 256]) (by omega) (by omega) (by
      simp only [List.length_append, List.length_singleton]; omega)
    rw [show ((8 * j : Nat) : Int) - 8 = 8 * (j : Int) - 8 by omega, this, be, List.append_assoc]
    rfl
theorem key_number_eq (n : Int) (j k : Nat) (hk : j < k) (h1 : 1 ≤ j) (hj : j ≤ 8) : key_number.f k n (j : Int) = some (be n j) := by
  unfold key_number.f
  rw [wrap64_of (x := (j : Int) - 1) (by omega) (by omega), wrap64_of (by omega) (by omega), show 8 * ((j : Int) - 1) = 8 * (j : Int) - 8 by omega, key_number_l0 n j k [] hk hj (by simp; omega)]
  rfl
theorem nat_xor_top (r : Nat) (h : r < 9223372036854775808) : r ^^^ 9223372036854775808 = r + 9223372036854775808 := by
  apply Nat.eq_of_testBit_eq
  intro i
  have e : 9223372036854775808 = 2 ^ 63 := by decide
  rw [Nat.testBit_xor, e, Nat.add_comm, Nat.testBit_two_pow]
  by_cases c : i = 63
  · subst c
    rw [Nat.testBit_two_pow_add_eq]
    simp
  · by_cases c2 : i < 63
    · rw [Nat.testBit_two_pow_add_gt c2]
      simp [Ne.symm c]
    · have h1 : r.testBit i = false := Nat.testBit_lt_two_pow (Nat.lt_of_lt_of_le h (by rw [e]; exact Nat.pow_le_pow_right (by decide) (by omega)))
      have h2 : (2 ^ 63 + r).testBit i = false := Nat.testBit_lt_two_pow (Nat.lt_of_lt_of_le (m := 2 ^ 64) (by omega) (Nat.pow_le_pow_right (by decide) (by omega)))
      rw [h1, h2]
      simp [Ne.symm c]
theorem nat_xor_top' (r : Nat) (h : r < 18446744073709551616) : r ^^^ 9223372036854775808 = (r + 9223372036854775808) % 18446744073709551616 := by
  by_cases c : r < 9223372036854775808
  · rw [nat_xor_top r c]; omega
  · obtain ⟨q, rfl⟩ : ∃ q, r = q + 9223372036854775808 := ⟨r - 9223372036854775808, by omega⟩
    rw [← nat_xor_top q (by omega), Nat.xor_assoc, Nat.xor_self, Nat.xor_zero]
    rw [nat_xor_top q (by omega)]
    omega
theorem toNat_ofInt (a : Int) : ((BitVec.ofInt 64 a).toNat : Int) = a % 18446744073709551616 := by
  rw [BitVec.toNat_ofInt]
  have : (0 : Int) ≤ a % ((2 ^ 64 : Nat) : Int) := Int.emod_nonneg _ (by decide)
  rw [Int.toNat_of_nonneg this]
  rfl
theorem i64_wrap (n : Int) : IntKind.i64.wrap n = wrap64 n := by
  simp [IntKind.wrap, IntKind.bits, IntKind.signed, wrap64]
  split <;> omega
theorem xorMin (a : Int) : Go.bits .xor .i64 a (-9223372036854775808) = wrap64 (a + 9223372036854775808) := by
  have h1 := toNat_ofInt a
  have h2 : (BitVec.ofInt 64 (-9223372036854775808)).toNat = 9223372036854775808 := by decide +kernel
  have h3 : (BitVec.ofInt 64 a).toNat < 18446744073709551616 := (BitVec.ofInt 64 a).isLt
  have hx := nat_xor_top' _ h3
  show IntKind.i64.wrap ((BitVec.ofInt 64 a ^^^ BitVec.ofInt 64 (-9223372036854775808)).toNat : Int) = _
  rw [BitVec.toNat_xor, h2, hx, i64_wrap]
  generalize (BitVec.ofInt 64 a).toNat = r at *
  unfold wrap64
  omega
theorem be_eq_of_emod {a b : Int} {k : Nat} (h : a % p256 k = b % p256 k) : be a k = be b k := by
  have h1 := Int.mul_ediv_add_emod a (p256 k)
  have h2 := Int.mul_ediv_add_emod b (p256 k)
  have := be_add b (a / p256 k - b / p256 k) k 0
  rw [p256_zero, Int.mul_one, Int.sub_mul, Int.mul_comm (a / p256 k), Int.mul_comm (b / p256 k)] at this
  rw [show b + (p256 k * (a / p256 k) - p256 k * (b / p256 k)) = a by omega] at this
  exact this
theorem p256_8 : p256 8 = 18446744073709551616 := by decide
theorem p256_4 : p256 4 = 4294967296 := by decide
theorem key_signed_eq (k : Nat) (a : Int) (hk : 9 < k) : key_signed.f k a = some (be (a + 9223372036854775808) 8) := by
  unfold key_signed.f
  have := key_number_eq (wrap64 (a + 9223372036854775808)) 8 k (by omega) (by decide) (by decide)
  rw [xorMin, show (8 : Int) = ((8 : Nat) : Int) from rfl, this, Option.bind_some]
  congr 1
  apply be_eq_of_emod
  rw [p256_8]; unfold wrap64; omega
end Go.Proofs.Ytjacflmgbmfhcaa.K
namespace Go.Proofs.Ytjacflmgbmfhcaa.K
open Go.RowKit Go.Proofs.YtjacflmgbmfhcaaW.PrintWords Go.Proofs.YtjacflmgbmfhcaaW.PrintLast Go.Proofs.YtjacflmgbmfhcaaW.PrintMore
attribute [local go_sem] max2_int min2_int max_two min_two max_three min_three max_four min_four
attribute [local go_sem high] own_gtr own_leq own_geq own_cell_set Option.map_some fld24_3
set_option linter.unusedVariables false
set_option linter.unusedSimpArgs false
def okB (st : ByteArray) : Bool := st.data.toList.all fun b => decide (32 ≤ b.toNat ∧ b.toNat ≤ 126)
def noS (st : ByteArray) : Bool := st.toList == ([] : List UInt8)
def rightB (kd n sc : Int) (st : ByteArray) : Bool :=
  if kd = 0 then n == 0 && (sc == 0 && noS st)
  else if kd = 1 then decide (0 ≤ n ∧ n ≤ 1) && (sc == 0 && noS st)
  else if kd = 2 then sc == 0 && noS st
  else if kd = 3 then decide (-1000000000000000 < n ∧ n < 1000000000000000 ∧ 0 ≤ sc ∧ sc ≤ 6 ∧ (sc = 0 ∨ n % 10 ≠ 0)) && noS st
  else if kd = 4 then decide (n = 0 ∧ sc = 0 ∧ st.data.size ≤ 40) && okB st
  else if kd = 5 then decide (n = 0 ∧ sc = 0 ∧ st.data.size ≤ 40)
  else false
end Go.Proofs.Ytjacflmgbmfhcaa.K
namespace Go.Proofs.Ytjacflmgbmfhcaa.K
open Go.RowKit Go.Proofs.YtjacflmgbmfhcaaW.PrintWords Go.Proofs.YtjacflmgbmfhcaaW.PrintLast Go.Proofs.YtjacflmgbmfhcaaW.PrintMore
attribute [local go_sem] max2_int min2_int max_two min_two max_three min_three max_four min_four
attribute [local go_sem high] own_gtr own_leq own_geq own_cell_set Option.map_some fld24_3
set_option linter.unusedVariables false
set_option linter.unusedSimpArgs false
theorem son_toList (L : List Int) : (strOfNums L).toList = L.map fun n => UInt8.ofNat n.toNat := by
  rw [Lib.toList_data]; rfl
theorem son_size (L : List Int) : (strOfNums L).size = L.length := by simp [strOfNums, ByteArray.size]
theorem u8_back {x : Int} (h : 0 ≤ x ∧ x < 256) : ((UInt8.ofNat x.toNat).toNat : Int) = x := by
  rw [UInt8.toNat_ofNat']
  omega
theorem byteL_isB (s : ByteArray) : isB (byteL s) := by
  intro x hx
  obtain ⟨b, _, rfl⟩ := List.mem_map.1 hx
  have := b.toNat_lt
  omega
theorem byteL_len (s : ByteArray) : (byteL s).length = s.size := by unfold byteL; rw [List.length_map]; rfl
theorem son_byteL (s : ByteArray) : strOfNums (byteL s) = s := by
  apply ByteArray.ext
  unfold strOfNums byteL
  simp only [List.map_map]
  have : (s.data.toList.map ((fun n : Int => UInt8.ofNat n.toNat) ∘ fun b : UInt8 => (b.toNat : Int))) = s.data.toList := by
    conv => rhs; rw [← List.map_id s.data.toList]
    apply List.map_congr_left
    intro x _
    simp
  rw [this]
theorem toList_inj {s t : ByteArray} : s.toList = t.toList ↔ s = t := by
  constructor
  · intro h
    rw [Lib.toList_data, Lib.toList_data] at h
    apply ByteArray.ext
    exact Array.toList_inj.1 h
  · rintro rfl; rfl
def lessL : List Int → List Int → Bool
  | [], [] => false
  | [], _ :: _ => true
  | _ :: _, [] => false
  | a :: x, b :: y => decide (a < b) || (a == b && lessL x y)
theorem u8_lt {a b : Int} (ha : 0 ≤ a ∧ a < 256) (hb : 0 ≤ b ∧ b < 256) : (UInt8.ofNat a.toNat < UInt8.ofNat b.toNat) ↔ a < b := by
  rw [UInt8.lt_iff_toNat_lt]
  have h1 := u8_back ha
  have h2 := u8_back hb
  omega
theorem u8_eq {a b : Int} (ha : 0 ≤ a ∧ a < 256) (hb : 0 ≤ b ∧ b < 256) : (UInt8.ofNat a.toNat = UInt8.ofNat b.toNat) ↔ a = b := by
  constructor
  · intro h
    have h1 := u8_back ha
    have h2 := u8_back hb
    rw [h] at h1
    omega
  · rintro rfl; rfl
theorem less_map : ∀ (L M : List Int), isB L → isB M → Op.bytesLess (L.map fun n => UInt8.ofNat n.toNat) (M.map fun n => UInt8.ofNat n.toNat) = lessL L M
  | [], [], _, _ => rfl
  | [], _ :: _, _, _ => rfl
  | _ :: _, [], _, _ => rfl
  | a :: x, b :: y, hL, hM => by
    simp only [List.map_cons, Op.bytesLess, lessL]
    rw [less_map x y (isB_tail hL) (isB_tail hM)]
    have h1 := u8_lt (isB_head hL) (isB_head hM)
    have h2 := u8_eq (isB_head hL) (isB_head hM)
    congr 1
    · rw [Bool.eq_iff_iff]; simpa using h1
    · congr 1
      rw [Bool.eq_iff_iff, beq_iff_eq, beq_iff_eq]; exact h2
theorem less_son {L M : List Int} (hL : isB L) (hM : isB M) : Op.bytesLess (strOfNums L).toList (strOfNums M).toList = lessL L M := by
  rw [son_toList, son_toList]; exact less_map L M hL hM
theorem less_bytes (s t : ByteArray) : Op.bytesLess s.toList t.toList = lessL (byteL s) (byteL t) := by
  rw [← less_son (byteL_isB s) (byteL_isB t), son_byteL, son_byteL]
theorem lessL_irrefl : ∀ L, lessL L L = false
  | [] => rfl
  | a :: x => by simp [lessL, lessL_irrefl x]
theorem lessL_same (u v : List Int) : ∀ L, lessL (L ++ u) (L ++ v) = lessL u v
  | [] => rfl
  | a :: x => by simp [lessL, lessL_same u v x]
theorem lessL_len (u v : List Int) : ∀ L M : List Int, L.length = M.length → lessL (L ++ u) (M ++ v) = if L = M then lessL u v else lessL L M
  | [], [], _ => by simp
  | [], _ :: _, h => by simp at h
  | _ :: _, [], h => by simp at h
  | a :: x, b :: y, h => by
    simp only [List.cons_append, lessL]
    rw [lessL_len u v x y (by simpa using h)]
    by_cases e : a = b
    · subst e
      by_cases e2 : x = y
      · subst e2; simp
      · rw [if_neg e2, if_neg (by simpa using e2)]
    · have e3 : ¬ (a :: x = b :: y) := by simp [e]
      have : (a == b) = false := by simpa using e
      rw [if_neg e3, this]; simp
theorem be_lt : ∀ (k : Nat) (a b : Int), 0 ≤ a → a < p256 k → 0 ≤ b → b < p256 k → lessL (be a k) (be b k) = decide (a < b)
  | 0, a, b, h0, h1, h2, h3 => by
    rw [p256_zero] at h1 h3
    rw [decide_eq_false (by omega)]; rfl
  | k + 1, a, b, h0, h1, h2, h3 => by
    have hp := p256_pos k
    rw [p256_succ] at h1 h3
    have a1 := Int.mul_ediv_add_emod a (p256 k)
    have b1 := Int.mul_ediv_add_emod b (p256 k)
    have a2 := Int.emod_nonneg a (show p256 k ≠ 0 by omega)
    have b2 := Int.emod_nonneg b (show p256 k ≠ 0 by omega)
    have a3 := Int.emod_lt_of_pos a hp
    have b3 := Int.emod_lt_of_pos b hp
    have a4 : 0 ≤ a / p256 k := Int.ediv_nonneg h0 (by omega)
    have b4 : 0 ≤ b / p256 k := Int.ediv_nonneg h2 (by omega)
    have a5 : a / p256 k < 256 := Int.ediv_lt_of_lt_mul hp (by rw [Int.mul_comm]; exact h1)
    have b5 : b / p256 k < 256 := Int.ediv_lt_of_lt_mul hp (by rw [Int.mul_comm]; exact h3)
    have ih := be_lt k (a % p256 k) (b % p256 k) a2 a3 b2 b3
    have ea : be (a % p256 k) k = be a k := be_eq_of_emod (Int.emod_emod_of_dvd a (Int.dvd_refl _))
    have eb : be (b % p256 k) k = be b k := be_eq_of_emod (Int.emod_emod_of_dvd b (Int.dvd_refl _))
    rw [ea, eb] at ih
    simp only [be, lessL]
    rw [ih, Int.emod_eq_of_lt a4 a5, Int.emod_eq_of_lt b4 b5, Bool.eq_iff_iff]
    simp only [Bool.or_eq_true, Bool.and_eq_true, decide_eq_true_eq, beq_iff_eq]
    generalize a / p256 k = u at *
    generalize b / p256 k = v at *
    generalize a % p256 k = r at *
    generalize b % p256 k = s at *
    generalize p256 k = p at *
    constructor
    · rintro (h | ⟨rfl, h⟩)
      · have : p * (u + 1) ≤ p * v := Int.mul_le_mul_of_nonneg_left (by omega) (by omega)
        rw [Int.mul_add, Int.mul_one] at this
        omega
      · omega
    · intro h
      by_cases c : u < v
      · exact Or.inl c
      · by_cases c2 : u = v
        · subst c2; exact Or.inr ⟨rfl, by omega⟩
        · have : p * (v + 1) ≤ p * u := Int.mul_le_mul_of_nonneg_left (by omega) (by omega)
          rw [Int.mul_add, Int.mul_one] at this
          omega
theorem be_inj {k : Nat} {a b : Int} (h0 : 0 ≤ a) (h1 : a < p256 k) (h2 : 0 ≤ b) (h3 : b < p256 k) (h : be a k = be b k) : a = b := by
  have ha := num256_be a k
  have hb := num256_be b k
  rw [h, hb, Int.emod_eq_of_lt h0 h1, Int.emod_eq_of_lt h2 h3] at ha
  exact ha.symm
end Go.Proofs.Ytjacflmgbmfhcaa.K
