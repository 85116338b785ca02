-- Written by drive.py and pack.py (programs of this proof's own) through the kit's printer; not trusted: Lean checks it.
import Derived.Test.YtjacflmgbmfhcaaCKeyRowOrder1
import Derived.Test.YtjacflmgbmfhcaaCKeyRowOrder7
import Derived.Test.YtjacflmgbmfhcaaCKeyRowOrder8
import Derived.Test.YtjacflmgbmfhcaaCKeyRowOrder9
namespace Go.Proofs.Ytjacflmgbmfhcaa.K
open Go.RowKit Go.Proofs.YtjacflmgbmfhcaaW.PrintWords Go.Proofs.YtjacflmgbmfhcaaW.PrintLast Go.Proofs.YtjacflmgbmfhcaaW.PrintMore
attribute [local go_sem] max2_int min2_int max_two min_two max_three min_three max_four min_four
attribute [local go_sem high] own_gtr own_leq own_geq own_cell_set Option.map_some fld24_3
set_option linter.unusedVariables false
set_option linter.unusedSimpArgs false
mutual
def federationlaw2_KeyRowOrder.j0 : Nat → Int → Int → Int → Int → ByteArray → ByteArray → Bool → Option (Bool)
  | 0, _, _, _, _, _, _, _ => none
  | k + 1, x0, x1, x2, x3, x4, x5, x27 => if x27 = true then (some true) else ((federationlaw2_within.f x0 9).bind fun t102 => ((federationlaw1_Make.f k 4 0 x4).bind fun bt103 => ((some (([(⟨2, t102, 0, (⟨#[]⟩ : ByteArray)⟩ : S24), (⟨4, 0, 0, bt103.2.2.2⟩ : S24)] : List (S24)) : List (S24))).bind fun y107 => ((federationlaw2_within.f x1 9).bind fun t110 => ((federationlaw1_Make.f k 4 0 x5).bind fun bt111 => ((some (([(⟨2, t110, 0, (⟨#[]⟩ : ByteArray)⟩ : S24), (⟨4, 0, 0, bt111.2.2.2⟩ : S24)] : List (S24)) : List (S24))).bind fun y115 => ((federationlaw2_within.f x2 3).bind fun t118 => (if t118 = 0 then (if 0 < (y107.length : Int) then (if 0 < (y115.length : Int) then (federationlaw2_KeyRowOrder.j1 k x3 y107 (y115.set (0 : Int).toNat (⟨(rd_T24 y107 0).f0, (rd_T24 y107 0).f1, (rd_T24 y107 0).f2, (rd_T24 y107 0).f3⟩ : S24))) else (none)) else (none)) else (federationlaw2_KeyRowOrder.j1 k x3 y107 y115)))))))))
def federationlaw2_KeyRowOrder.j1 : Nat → Int → List (S24) → List (S24) → Option (Bool)
  | 0, _, _, _ => none
  | k + 1, x3, x13, x14 => (federationlaw2_within.f x3 3).bind fun t121 => (if t121 = 0 then (if 1 < (x13.length : Int) then (if 1 < (x14.length : Int) then (federationlaw2_KeyRowOrder.j2 k x13 (x14.set (1 : Int).toNat (⟨(rd_T24 x13 1).f0, (rd_T24 x13 1).f1, (rd_T24 x13 1).f2, (rd_T24 x13 1).f3⟩ : S24))) else (none)) else (none)) else (federationlaw2_KeyRowOrder.j2 k x13 x14))
def federationlaw2_KeyRowOrder.j2 : Nat → List (S24) → List (S24) → Option (Bool)
  | 0, _, _ => none
  | k + 1, x13, x14 => if 0 < (x13.length : Int) then (if 0 < (x14.length : Int) then ((federationref1_Order.f k ((rd_T24 x13 0).f0) ((rd_T24 x13 0).f1) ((rd_T24 x13 0).f2) ((rd_T24 x13 0).f3) ((rd_T24 x14 0).f0) ((rd_T24 x14 0).f1) ((rd_T24 x14 0).f2) ((rd_T24 x14 0).f3)).bind fun t126 => (if t126 = 0 then (if 1 < (x13.length : Int) then (if 1 < (x14.length : Int) then ((federationref1_Order.f k ((rd_T24 x13 1).f0) ((rd_T24 x13 1).f1) ((rd_T24 x13 1).f2) ((rd_T24 x13 1).f3) ((rd_T24 x14 1).f0) ((rd_T24 x14 1).f1) ((rd_T24 x14 1).f2) ((rd_T24 x14 1).f3)).bind fun t129 => ((key_Row.f k x13).bind fun t130 => ((key_Row.f k x14).bind fun t131 => (if ((Op.bytesLess t130.toList t131.toList) == (decide (t129 < 0))) = true then (some ((t130.toList == t131.toList) == (t129 == 0))) else (none))))) else (none)) else (none)) else ((key_Row.f k x13).bind fun t132 => ((key_Row.f k x14).bind fun t133 => (if ((Op.bytesLess t132.toList t133.toList) == (decide (t126 < 0))) = true then (some ((t132.toList == t133.toList) == (t126 == 0))) else (none)))))) else (none)) else (none)
end
def federationlaw2_KeyRowOrder.f (k : Nat) (a0 : Int) (a1 : Int) (a2 : Int) (a3 : Int) (a4 : ByteArray) (a5 : ByteArray) : Option (Bool) := (federationlaw2_known.f k).bind fun t101 => (if t101 = true then (if (a4.size : Int) > 60 then (federationlaw2_KeyRowOrder.j0 k a0 a1 a2 a3 a4 a5 true) else (federationlaw2_KeyRowOrder.j0 k a0 a1 a2 a3 a4 a5 (decide ((a5.size : Int) > 60)))) else (none))
def federationlaw2_KeyRowOrder.T11 : Bool × List (List Nat × List Nat) := (true, [([], []), ([0], [0]), ([1], [1]), ([], []), ([3], [3]), ([4], [4]), ([2, 5], [2, 5]), ([6, 6, 0, 1, 2, 3, 4, 5, 6], [6])])
def federationlaw2_KeyRowOrder.B11 : List Nat := [0, 1, 3, 0, 8, 24, 63, 127]
theorem federationlaw2_KeyRowOrder.tab11 : rtab .any (opsOf Try.f8 11) = federationlaw2_KeyRowOrder.T11 := by kernel_rfl
theorem federationlaw2_KeyRowOrder.bits11 : waitsOk federationlaw2_KeyRowOrder.T11.2 federationlaw2_KeyRowOrder.B11 = true := by kernel_rfl
def federationlaw2_KeyRowOrder.T13 : Bool × List (List Nat × List Nat) := (true, [([], []), ([0], [0]), ([1], [1]), ([], []), ([3], [3]), ([4], [4]), ([2, 5], [2, 5]), ([6, 6, 0, 1, 2, 3, 4, 5, 6], [6])])
def federationlaw2_KeyRowOrder.B13 : List Nat := [0, 1, 3, 0, 8, 24, 63, 127]
theorem federationlaw2_KeyRowOrder.tab13 : rtab .any (opsOf Try.f8 13) = federationlaw2_KeyRowOrder.T13 := by kernel_rfl
theorem federationlaw2_KeyRowOrder.bits13 : waitsOk federationlaw2_KeyRowOrder.T13.2 federationlaw2_KeyRowOrder.B13 = true := by kernel_rfl
set_option maxHeartbeats 8000000 in
set_option maxRecDepth 100000 in
theorem federationlaw2_KeyRowOrder.calls (k : Nat) (a0 : Int) (a1 : Int) (a2 : Int) (a3 : Int) (a4 : ByteArray) (a5 : ByteArray) (r : Bool) (w : World) (h : federationlaw2_KeyRowOrder.f k a0 a1 a2 a3 a4 a5 = some r) :
    Calls Try.prog 8 #[.int .i64 a0, .int .i64 a1, .int .i64 a2, .int .i64 a3, .string a4, .string a5] w fun e w' => e = .returned (.bool r) ∧ Below w.heap.size w w' := by
  have hu24 := Try.underlying24
  have HB := Aside0.mk (Below.refl w.heap.size w)
  have H : ((federationlaw2_known.f k).bind fun t101 => (if t101 = true then (if (a4.size : Int) > 60 then (federationlaw2_KeyRowOrder.j0 k a0 a1 a2 a3 a4 a5 true) else (federationlaw2_KeyRowOrder.j0 k a0 a1 a2 a3 a4 a5 (decide ((a5.size : Int) > 60)))) else (none))) = some r := h
  clear h
  replace H := Option.bind_eq_some_iff.mp H
  obtain ⟨t101, A70, H⟩ := H
  replace H : (if t101 = true then (if (a4.size : Int) > 60 then (federationlaw2_KeyRowOrder.j0 k a0 a1 a2 a3 a4 a5 true) else (federationlaw2_KeyRowOrder.j0 k a0 a1 a2 a3 a4 a5 (decide ((a5.size : Int) > 60)))) else (none)) = some r := H
  have A7 := Aside0.mk A70
  clear A70
  by_cases c8 : t101 = true
  · subst c8
    have H1 : (if (a4.size : Int) > 60 then (federationlaw2_KeyRowOrder.j0 k a0 a1 a2 a3 a4 a5 true) else (federationlaw2_KeyRowOrder.j0 k a0 a1 a2 a3 a4 a5 (decide ((a5.size : Int) > 60)))) = some r := by rw [if_pos rfl] at H; exact H
    clear H
    have H := H1
    clear H1
    have HC9 := Aside0.mk H
    clear H
    go_enter Try.func8, Try.ntmps8
    go_upto_region 3 with (first | ((with_reducible refine gate_callee (f := 12) rfl ?_); refine goesL_ (some 18) rfl rfl Try.func12 (by kernel_rfl) rfl #[] rfl (by (try simp only [List.map_toArray, List.map_cons, List.map_nil]); first | done | rfl | (simp only [List.length_drop, List.length_take]; rfl)) ?_; (with_reducible refine (federationlaw2_known.calls k  true _ A7.out).mono ?_); rintro e w10 ⟨rfl, hb⟩; refine ⟨_, rfl, ?_⟩; have n0_ := Aside0.mk (below_step (by repeat (first | (with_reducible first | exact HB.out | apply below_alloc | apply pw_below_drewN | apply below_drew1) | exact HB.out)) hb); clear HB; have HB := n0_; clear n0_; (try clear hb); (try clear hb2); (try clear hk); (try clear hi)))
    (try simp only [Act.put, List.setIfInBounds_toArray, List.set_cons_zero, List.set_cons_succ])
    go_cut [27] (fun v27 wc => ∃ (kq : Nat) (x27_8 : Bool), v27 = .bool x27_8 ∧ Aside0 (federationlaw2_KeyRowOrder.j0 kq a0 a1 a2 a3 a4 a5 x27_8 = some r) ∧ Aside0 (kq ≤ k) ∧ Aside0 (Below w.heap.size w wc))
    case first =>
      have H := HC9.out
      clear HC9
      by_cases c11 : (a4.size : Int) > 60
      · rw [if_pos c11] at H
        have c11b0 : decide (60 < (a4.size : Int)) = true := decide_eq_true c11
        have c11b1 : decide (60 < a4.size) = true := decide_eq_true (by omega)
        clear c11
        (first | rw [c11b0] | (simp only [i64_w, i32_w]; rw [c11b0]) | skip)
        have H' := Aside0.mk H
        clear H
        go_wp2
        go_meet
        case rel => exact ⟨_, (true), (by first | rfl | (simp; done) | (simp [*]; done)), H', ⟨by first | omega | exact Nat.le_refl _⟩, ⟨by repeat (first | (with_reducible first | exact HB.out | apply below_alloc | apply pw_below_drewN | apply below_drew1) | exact HB.out)⟩⟩
      · rw [if_neg c11] at H
        have c11b0 : decide (60 < (a4.size : Int)) = false := decide_eq_false c11
        have c11b1 : decide (60 < a4.size) = false := decide_eq_false (by omega)
        clear c11
        (first | rw [c11b0] | (simp only [i64_w, i32_w]; rw [c11b0]) | skip)
        have H' := Aside0.mk H
        clear H
        go_wp2
        go_meet
        case rel => exact ⟨_, (decide ((a5.size : Int) > 60)), (by first | rfl | (simp; done) | (simp [*]; done)), H', ⟨by first | omega | exact Nat.le_refl _⟩, ⟨by repeat (first | (with_reducible first | exact HB.out | apply below_alloc | apply pw_below_drewN | apply below_drew1) | exact HB.out)⟩⟩
    case rest =>
      clear HC9
      try clear c1
      try clear p2
      try clear c8
      try clear c11
      try clear c11b0
      try clear c11b1
      obtain ⟨kq, x27_8, rfl, HA, HJ8, HB⟩ := hcut
      cases kq with
      | zero => exact absurd HA.out (by simp [federationlaw2_KeyRowOrder.j0])
      | succ kj8 =>
        have H := HA.out
        clear HA
        simp only [federationlaw2_KeyRowOrder.j0] at H
        by_cases c12 : x27_8 = true
        · subst c12
          have H1 : (some true) = some r := by rw [if_pos rfl] at H; exact H
          clear H
          have H := H1
          clear H1
          obtain rfl := Option.some.inj H
          go_wp2
          go_ret
          exact ⟨by first | rfl | (simp [errW_none, errW_some] <;> rfl) | (simp [*, errW_none, errW_some] <;> rfl), by repeat (first | (with_reducible first | exact HB.out | apply below_alloc | apply pw_below_drewN | apply below_drew1) | exact HB.out)⟩
        · replace c12 := Bool.eq_false_iff.mpr c12
          subst c12
          have H1 : ((federationlaw2_within.f a0 9).bind fun t102 => ((federationlaw1_Make.f kj8 4 0 a4).bind fun bt103 => ((some (([(⟨2, t102, 0, (⟨#[]⟩ : ByteArray)⟩ : S24), (⟨4, 0, 0, bt103.2.2.2⟩ : S24)] : List (S24)) : List (S24))).bind fun y107 => ((federationlaw2_within.f a1 9).bind fun t110 => ((federationlaw1_Make.f kj8 4 0 a5).bind fun bt111 => ((some (([(⟨2, t110, 0, (⟨#[]⟩ : ByteArray)⟩ : S24), (⟨4, 0, 0, bt111.2.2.2⟩ : S24)] : List (S24)) : List (S24))).bind fun y115 => ((federationlaw2_within.f a2 3).bind fun t118 => (if t118 = 0 then (if 0 < (y107.length : Int) then (if 0 < (y115.length : Int) then (federationlaw2_KeyRowOrder.j1 kj8 a3 y107 (y115.set (0 : Int).toNat (⟨(rd_T24 y107 0).f0, (rd_T24 y107 0).f1, (rd_T24 y107 0).f2, (rd_T24 y107 0).f3⟩ : S24))) else (none)) else (none)) else (federationlaw2_KeyRowOrder.j1 kj8 a3 y107 y115))))))))) = some r := by rw [if_neg (show ¬ (false = true) by decide)] at H; exact H
          clear H
          have H := H1
          clear H1
          replace H := Option.bind_eq_some_iff.mp H
          obtain ⟨t102, A130, H⟩ := H
          replace H : ((federationlaw1_Make.f kj8 4 0 a4).bind fun bt103 => ((some (([(⟨2, t102, 0, (⟨#[]⟩ : ByteArray)⟩ : S24), (⟨4, 0, 0, bt103.2.2.2⟩ : S24)] : List (S24)) : List (S24))).bind fun y107 => ((federationlaw2_within.f a1 9).bind fun t110 => ((federationlaw1_Make.f kj8 4 0 a5).bind fun bt111 => ((some (([(⟨2, t110, 0, (⟨#[]⟩ : ByteArray)⟩ : S24), (⟨4, 0, 0, bt111.2.2.2⟩ : S24)] : List (S24)) : List (S24))).bind fun y115 => ((federationlaw2_within.f a2 3).bind fun t118 => (if t118 = 0 then (if 0 < (y107.length : Int) then (if 0 < (y115.length : Int) then (federationlaw2_KeyRowOrder.j1 kj8 a3 y107 (y115.set (0 : Int).toNat (⟨(rd_T24 y107 0).f0, (rd_T24 y107 0).f1, (rd_T24 y107 0).f2, (rd_T24 y107 0).f3⟩ : S24))) else (none)) else (none)) else (federationlaw2_KeyRowOrder.j1 kj8 a3 y107 y115)))))))) = some r := H
          have A13 := Aside0.mk A130
          clear A130
          replace H := Option.bind_eq_some_iff.mp H
          obtain ⟨⟨t103, t104, t105, t106⟩, A140, H⟩ := H
          replace H : ((some (([(⟨2, t102, 0, (⟨#[]⟩ : ByteArray)⟩ : S24), (⟨4, 0, 0, t106⟩ : S24)] : List (S24)) : List (S24))).bind fun y107 => ((federationlaw2_within.f a1 9).bind fun t110 => ((federationlaw1_Make.f kj8 4 0 a5).bind fun bt111 => ((some (([(⟨2, t110, 0, (⟨#[]⟩ : ByteArray)⟩ : S24), (⟨4, 0, 0, bt111.2.2.2⟩ : S24)] : List (S24)) : List (S24))).bind fun y115 => ((federationlaw2_within.f a2 3).bind fun t118 => (if t118 = 0 then (if 0 < (y107.length : Int) then (if 0 < (y115.length : Int) then (federationlaw2_KeyRowOrder.j1 kj8 a3 y107 (y115.set (0 : Int).toNat (⟨(rd_T24 y107 0).f0, (rd_T24 y107 0).f1, (rd_T24 y107 0).f2, (rd_T24 y107 0).f3⟩ : S24))) else (none)) else (none)) else (federationlaw2_KeyRowOrder.j1 kj8 a3 y107 y115))))))) = some r := H
          have A14 := Aside0.mk A140
          clear A140
          obtain ⟨y107, hy107⟩ : ∃ y_ : List (S24), y_ = (([(⟨2, t102, 0, (⟨#[]⟩ : ByteArray)⟩ : S24), (⟨4, 0, 0, t106⟩ : S24)] : List (S24))) := ⟨_, rfl⟩
          replace H : ((federationlaw2_within.f a1 9).bind fun t110 => ((federationlaw1_Make.f kj8 4 0 a5).bind fun bt111 => ((some (([(⟨2, t110, 0, (⟨#[]⟩ : ByteArray)⟩ : S24), (⟨4, 0, 0, bt111.2.2.2⟩ : S24)] : List (S24)) : List (S24))).bind fun y115 => ((federationlaw2_within.f a2 3).bind fun t118 => (if t118 = 0 then (if 0 < (y107.length : Int) then (if 0 < (y115.length : Int) then (federationlaw2_KeyRowOrder.j1 kj8 a3 y107 (y115.set (0 : Int).toNat (⟨(rd_T24 y107 0).f0, (rd_T24 y107 0).f1, (rd_T24 y107 0).f2, (rd_T24 y107 0).f3⟩ : S24))) else (none)) else (none)) else (federationlaw2_KeyRowOrder.j1 kj8 a3 y107 y115)))))) = some r := by first | (rw [hy107]; with_reducible exact H) | (have H2_ := (Option.bind_some _ _).symm.trans H; rw [hy107]; with_reducible exact H2_) | (have H2_ := (Option.bind_some _ _).symm.trans H; with_reducible exact H2_) | with_reducible exact H | (rw [hy107]; exact H) | exact H
          have Ny107 := Aside0.mk hy107
          clear hy107
          replace H := Option.bind_eq_some_iff.mp H
          obtain ⟨t110, A150, H⟩ := H
          replace H : ((federationlaw1_Make.f kj8 4 0 a5).bind fun bt111 => ((some (([(⟨2, t110, 0, (⟨#[]⟩ : ByteArray)⟩ : S24), (⟨4, 0, 0, bt111.2.2.2⟩ : S24)] : List (S24)) : List (S24))).bind fun y115 => ((federationlaw2_within.f a2 3).bind fun t118 => (if t118 = 0 then (if 0 < (y107.length : Int) then (if 0 < (y115.length : Int) then (federationlaw2_KeyRowOrder.j1 kj8 a3 y107 (y115.set (0 : Int).toNat (⟨(rd_T24 y107 0).f0, (rd_T24 y107 0).f1, (rd_T24 y107 0).f2, (rd_T24 y107 0).f3⟩ : S24))) else (none)) else (none)) else (federationlaw2_KeyRowOrder.j1 kj8 a3 y107 y115))))) = some r := H
          have A15 := Aside0.mk A150
          clear A150
          replace H := Option.bind_eq_some_iff.mp H
          obtain ⟨⟨t111, t112, t113, t114⟩, A160, H⟩ := H
          replace H : ((some (([(⟨2, t110, 0, (⟨#[]⟩ : ByteArray)⟩ : S24), (⟨4, 0, 0, t114⟩ : S24)] : List (S24)) : List (S24))).bind fun y115 => ((federationlaw2_within.f a2 3).bind fun t118 => (if t118 = 0 then (if 0 < (y107.length : Int) then (if 0 < (y115.length : Int) then (federationlaw2_KeyRowOrder.j1 kj8 a3 y107 (y115.set (0 : Int).toNat (⟨(rd_T24 y107 0).f0, (rd_T24 y107 0).f1, (rd_T24 y107 0).f2, (rd_T24 y107 0).f3⟩ : S24))) else (none)) else (none)) else (federationlaw2_KeyRowOrder.j1 kj8 a3 y107 y115)))) = some r := H
          have A16 := Aside0.mk A160
          clear A160
          obtain ⟨y115, hy115⟩ : ∃ y_ : List (S24), y_ = (([(⟨2, t110, 0, (⟨#[]⟩ : ByteArray)⟩ : S24), (⟨4, 0, 0, t114⟩ : S24)] : List (S24))) := ⟨_, rfl⟩
          replace H : ((federationlaw2_within.f a2 3).bind fun t118 => (if t118 = 0 then (if 0 < (y107.length : Int) then (if 0 < (y115.length : Int) then (federationlaw2_KeyRowOrder.j1 kj8 a3 y107 (y115.set (0 : Int).toNat (⟨(rd_T24 y107 0).f0, (rd_T24 y107 0).f1, (rd_T24 y107 0).f2, (rd_T24 y107 0).f3⟩ : S24))) else (none)) else (none)) else (federationlaw2_KeyRowOrder.j1 kj8 a3 y107 y115))) = some r := by first | (rw [hy115]; with_reducible exact H) | (have H2_ := (Option.bind_some _ _).symm.trans H; rw [hy115]; with_reducible exact H2_) | (have H2_ := (Option.bind_some _ _).symm.trans H; with_reducible exact H2_) | with_reducible exact H | (rw [hy115]; exact H) | exact H
          have Ny115 := Aside0.mk hy115
          clear hy115
          replace H := Option.bind_eq_some_iff.mp H
          obtain ⟨t118, A170, H⟩ := H
          replace H : (if t118 = 0 then (if 0 < (y107.length : Int) then (if 0 < (y115.length : Int) then (federationlaw2_KeyRowOrder.j1 kj8 a3 y107 (y115.set (0 : Int).toNat (⟨(rd_T24 y107 0).f0, (rd_T24 y107 0).f1, (rd_T24 y107 0).f2, (rd_T24 y107 0).f3⟩ : S24))) else (none)) else (none)) else (federationlaw2_KeyRowOrder.j1 kj8 a3 y107 y115)) = some r := H
          have A17 := Aside0.mk A170
          clear A170
          have HC18 := Aside0.mk H
          clear H
          go_upto_if 46 with (first | ((with_reducible refine gate_callee (f := 17) rfl ?_); refine goesL_ (some 29) rfl rfl Try.func17 (by kernel_rfl) rfl #[.int .i64 a0, .int .i64 9] rfl (by (try simp only [List.map_toArray, List.map_cons, List.map_nil]); first | done | rfl | (simp only [List.length_drop, List.length_take]; rfl)) ?_; (with_reducible refine (federationlaw2_within.calls a0 9 t102 _ A13.out).mono ?_); rintro e w' ⟨rfl, ⟨nd, rfl⟩⟩; refine ⟨_, rfl, ?_⟩) | ((with_reducible refine gate_callee (f := 13) rfl ?_); refine goesL_ (some 32) rfl rfl Try.func13 (by kernel_rfl) rfl #[.int .i64 4, .int .i64 0, .string a4] rfl (by (try simp only [List.map_toArray, List.map_cons, List.map_nil]); first | done | rfl | (simp only [List.length_drop, List.length_take]; rfl)) ?_; (with_reducible refine (federationlaw1_Make.calls kj8 4 0 a4 t103 t104 t105 t106 _ A14.out).mono ?_); rintro e w19 ⟨rfl, hb⟩; refine ⟨_, rfl, ?_⟩; have n0_ := Aside0.mk (below_step (by repeat (first | (with_reducible first | exact HB.out | apply below_alloc | apply pw_below_drewN | apply below_drew1) | exact HB.out)) hb); clear HB; have HB := n0_; clear n0_; (try clear hb); (try clear hb2); (try clear hk); (try clear hi)) | ((with_reducible refine gate_dst (N := 35) rfl ?_); (try (refine gate_guard (by rfl) ?_; dsimp only)); refine Kd.R_lit k24 _ 24 ?hg (N := 35) ?hd (xs := ([(⟨2, t102, 0, (⟨#[]⟩ : ByteArray)⟩ : S24), (⟨4, 0, 0, t106⟩ : S24)] : List (S24))) (inner := [.int .i64 2, .int .i64 t102, .int .i64 0, .string (⟨#[]⟩ : ByteArray), .int .i64 4, .int .i64 0, .int .i64 0, .string t106]) (ok := fun _ => True) (okp := fun _ => True) ?hr ?hp (fun _ hk => hk) trivial (Below.refl _ _) (Nat.le_refl _) (by simp) ?_; (case hd => rfl); (case hg => rfl); (case hr => first | (go_simp; done) | (go_simp; rfl)); (case hp => exact (Reps.c4 (show Kd.M k24 _ _ _ (⟨2, t102, 0, (⟨#[]⟩ : ByteArray)⟩ : S24) [.int .i64 2, .int .i64 t102, .int .i64 0, .string (⟨#[]⟩ : ByteArray)] from (k24_mkM _ _ _ (⟨2, t102, 0, (⟨#[]⟩ : ByteArray)⟩ : S24) )) (Reps.c4 (show Kd.M k24 _ _ _ (⟨4, 0, 0, t106⟩ : S24) [.int .i64 4, .int .i64 0, .int .i64 0, .string t106] from (k24_mkM _ _ _ (⟨4, 0, 0, t106⟩ : S24) )) (Reps.none _ _)))); intro v108 w20 ho21 hb hg_ hnew_; clear hg_ hnew_; (first | rw [← Ny107.out] at ho21 | (simp only [Int.reduceToNat] at ho21; rw [← Ny107.out] at ho21)); have n0_ := Aside0.mk (Kd.R_lower ho21 (below_size (by repeat (first | (with_reducible first | exact HB.out | apply below_alloc | apply pw_below_drewN | apply below_drew1) | exact HB.out)))); have n1_ := Aside0.mk (below_step (by repeat (first | (with_reducible first | exact HB.out | apply below_alloc | apply pw_below_drewN | apply below_drew1) | exact HB.out)) hb); clear HB; have HO109 := n0_; have HB := n1_; clear n0_ n1_; clear hb ho21) | ((with_reducible refine gate_callee (f := 17) rfl ?_); refine goesL_ (some 37) rfl rfl Try.func17 (by kernel_rfl) rfl #[.int .i64 a1, .int .i64 9] rfl (by (try simp only [List.map_toArray, List.map_cons, List.map_nil]); first | done | rfl | (simp only [List.length_drop, List.length_take]; rfl)) ?_; (with_reducible refine (federationlaw2_within.calls a1 9 t110 _ A15.out).mono ?_); rintro e w' ⟨rfl, ⟨nd, rfl⟩⟩; refine ⟨_, rfl, ?_⟩) | ((with_reducible refine gate_callee (f := 13) rfl ?_); refine goesL_ (some 40) rfl rfl Try.func13 (by kernel_rfl) rfl #[.int .i64 4, .int .i64 0, .string a5] rfl (by (try simp only [List.map_toArray, List.map_cons, List.map_nil]); first | done | rfl | (simp only [List.length_drop, List.length_take]; rfl)) ?_; (with_reducible refine (federationlaw1_Make.calls kj8 4 0 a5 t111 t112 t113 t114 _ A16.out).mono ?_); rintro e w22 ⟨rfl, hb⟩; refine ⟨_, rfl, ?_⟩; have n0_ := Aside0.mk (Kd.R_below (by (with_reducible repeat (first | apply Kd.R_alloc | apply Kd.R_drewN | apply Kd.R_drew)); exact HO109.out) hb); have n1_ := Aside0.mk (below_step (by repeat (first | (with_reducible first | exact HB.out | apply below_alloc | apply pw_below_drewN | apply below_drew1) | exact HB.out)) hb); clear HO109; clear HB; have HO109 := n0_; have HB := n1_; clear n0_ n1_; (try clear hb); (try clear hb2); (try clear hk); (try clear hi)) | ((with_reducible refine gate_dst (N := 43) rfl ?_); (try (refine gate_guard (by rfl) ?_; dsimp only)); refine Kd.R_lit k24 _ 24 ?hg (N := 43) ?hd (xs := ([(⟨2, t110, 0, (⟨#[]⟩ : ByteArray)⟩ : S24), (⟨4, 0, 0, t114⟩ : S24)] : List (S24))) (inner := [.int .i64 2, .int .i64 t110, .int .i64 0, .string (⟨#[]⟩ : ByteArray), .int .i64 4, .int .i64 0, .int .i64 0, .string t114]) (ok := fun _ => True) (okp := fun _ => True) ?hr ?hp (fun _ hk => hk) trivial (Below.refl _ _) (Nat.le_refl _) (by simp) ?_; (case hd => rfl); (case hg => rfl); (case hr => first | (go_simp; done) | (go_simp; rfl)); (case hp => exact (Reps.c4 (show Kd.M k24 _ _ _ (⟨2, t110, 0, (⟨#[]⟩ : ByteArray)⟩ : S24) [.int .i64 2, .int .i64 t110, .int .i64 0, .string (⟨#[]⟩ : ByteArray)] from (k24_mkM _ _ _ (⟨2, t110, 0, (⟨#[]⟩ : ByteArray)⟩ : S24) )) (Reps.c4 (show Kd.M k24 _ _ _ (⟨4, 0, 0, t114⟩ : S24) [.int .i64 4, .int .i64 0, .int .i64 0, .string t114] from (k24_mkM _ _ _ (⟨4, 0, 0, t114⟩ : S24) )) (Reps.none _ _)))); intro v116 w23 ho24 hb hg_ hnew_; clear hg_ hnew_; (first | rw [← Ny115.out] at ho24 | (simp only [Int.reduceToNat] at ho24; rw [← Ny115.out] at ho24)); have n0_ := Aside0.mk (Kd.R_elder' (by (with_reducible repeat (first | apply Kd.R_alloc | apply Kd.R_drewN | apply Kd.R_drew)); exact HO109.out) (Kd.R_base ho24) hb); have n1_ := Aside0.mk (Kd.R_lower (Kd.R_new' ho24 (Kd.R_lt (by (with_reducible repeat (first | apply Kd.R_alloc | apply Kd.R_drewN | apply Kd.R_drew)); exact HO109.out))) (below_size (by repeat (first | (with_reducible first | exact HB.out | apply below_alloc | apply pw_below_drewN | apply below_drew1) | exact HB.out)))); have n2_ := Aside0.mk (below_step (by repeat (first | (with_reducible first | exact HB.out | apply below_alloc | apply pw_below_drewN | apply below_drew1) | exact HB.out)) hb); clear HO109; clear HB; have HO109 := n0_; have HO117 := n1_; have HB := n2_; clear n0_ n1_ n2_; clear hb ho24) | ((with_reducible refine gate_callee (f := 17) rfl ?_); refine goesL_ (some 45) rfl rfl Try.func17 (by kernel_rfl) rfl #[.int .i64 a2, .int .i64 3] rfl (by (try simp only [List.map_toArray, List.map_cons, List.map_nil]); first | done | rfl | (simp only [List.length_drop, List.length_take]; rfl)) ?_; (with_reducible refine (federationlaw2_within.calls a2 3 t118 _ A17.out).mono ?_); rintro e w' ⟨rfl, ⟨nd, rfl⟩⟩; refine ⟨_, rfl, ?_⟩))
          (try simp only [Act.put, List.setIfInBounds_toArray, List.set_cons_zero, List.set_cons_succ])
          go_cut [] (fun wc => ∃ (kq : Nat) (x14_17 : List (S24)), Aside0 (federationlaw2_KeyRowOrder.j1 kq a3 y107 x14_17 = some r) ∧ Aside0 (kq ≤ kj8) ∧ Aside0 (Kd.R k24 24 wc w.heap.size (fun k_ => some k_ ≠ (v116 : Value).ownBlock) v108 y107) ∧ Aside0 (Kd.R k24 24 wc w.heap.size (fun k_ => some k_ ≠ (v108 : Value).ownBlock) v116 x14_17) ∧ Aside0 (Below w.heap.size w wc))
          case first =>
            have H := HC18.out
            clear HC18
            by_cases c25 : t118 = 0
            · rw [if_pos c25] at H
              have c25b0 : (t118 == 0) = true := beq_iff_eq.mpr c25
              have c25b1 : (t118 != 0) = false := bne_eq_false_iff_eq.mpr c25
              clear c25
              (first | rw [c25b0] | (simp only [i64_w, i32_w]; rw [c25b0]) | skip)
              by_cases c26 : 0 < (y107.length : Int)
              · rw [if_pos c26] at H
                have c26b0 : decide (0 < (y107.length : Int)) = true := decide_eq_true c26
                have c26b1 : decide (0 < y107.length) = true := decide_eq_true (by omega)
                clear c26
                by_cases c27 : 0 < (y115.length : Int)
                · rw [if_pos c27] at H
                  have c27b0 : decide (0 < (y115.length : Int)) = true := decide_eq_true c27
                  have c27b1 : decide (0 < y115.length) = true := decide_eq_true (by omega)
                  clear c27
                  obtain ⟨y120, hy120⟩ : ∃ y_ : List (S24), y_ = (y115.set (0 : Int).toNat (⟨(rd_T24 y107 0).f0, (rd_T24 y107 0).f1, (rd_T24 y107 0).f2, (rd_T24 y107 0).f3⟩ : S24)) := ⟨_, rfl⟩
                  replace H : (federationlaw2_KeyRowOrder.j1 kj8 a3 y107 y120) = some r := by first | (rw [hy120]; with_reducible exact H) | (have H2_ := (Option.bind_some _ _).symm.trans H; rw [hy120]; with_reducible exact H2_) | (have H2_ := (Option.bind_some _ _).symm.trans H; with_reducible exact H2_) | with_reducible exact H | (rw [hy120]; exact H) | exact H
                  have Ny120 := Aside0.mk hy120
                  clear hy120
                  have H' := Aside0.mk H
                  clear H
                  obtain ⟨Ao29, co29, eo29⟩ := Kd.R_slice HO109.out
                  subst eo29
                  have p119 : 0 ≤ (0 : Int) := (by omega)
                  have q119 : 0 < (y107.length : Int) := of_decide_eq_true (by first | (with_reducible assumption) | assumption)
                  obtain ⟨ad119, e119, hx119_0, hx119_1, hx119_2, hx119_3⟩ := at_T24 (Kd.R_reads' HO109.out).2.2 0 p119 q119
                  cases e119
                  have qi119 : (0 < y107.length) = True := eq_true (by omega)
                  (try rw [show ((0 : Int)).toNat = 0 from rfl] at hx119_0)
                  (try rw [show 0 * 4 = 0 from rfl] at hx119_0)
                  (try rw [Addr.add_zero'] at hx119_0)
                  (try rw [show ((0 : Int)).toNat = 0 from rfl] at hx119_1)
                  (try rw [show 0 * 4 = 0 from rfl] at hx119_1)
                  (try rw [Addr.add_zero'] at hx119_1)
                  (try rw [show ((0 : Int)).toNat = 0 from rfl] at hx119_2)
                  (try rw [show 0 * 4 = 0 from rfl] at hx119_2)
                  (try rw [Addr.add_zero'] at hx119_2)
                  (try rw [show ((0 : Int)).toNat = 0 from rfl] at hx119_3)
                  (try rw [show 0 * 4 = 0 from rfl] at hx119_3)
                  (try rw [Addr.add_zero'] at hx119_3)
                  replace p119 := eq_true p119
                  replace q119 := eq_true q119
                  have p28 : 0 ≤ (0 : Int) := (by omega)
                  have q28 : (0 : Int) < ((y115.length : Int) : Int) := of_decide_eq_true (by first | (with_reducible assumption) | assumption)
                  have qi28 : (0 < y115.length) = True := eq_true (by omega)
                  obtain ⟨go28, co28, eo28, gb28, gl28, cl28, HG28⟩ := Kd.R_form HO117.out (by omega)
                  (first | cases eo28 | (injection eo28 with ea_ en_ ec_; (first | subst ea_ | (injection ea_ with ea_; subst ea_)); subst ec_; clear en_))
                  have GB28 := Aside0.mk gb28
                  have GG28 := Aside0.mk HG28
                  clear gb28 gl28 HG28
                  obtain ⟨ce28, hcl28, hM28, hcc28, hfr28⟩ := Kd.R_elem HO117.out z24 (0 : Int) p28 q28
                  obtain rfl := k24_openM hM28
                  have hx28_0 : w23.cell? ⟨go28, (0 : Int).toNat * 4, none⟩ = some (.int .i64 ((rd_T24 y115 0).f0)) := hcc28 0 _ rfl
                  have hx28_1 : w23.cell? ⟨go28, (0 : Int).toNat * 4 + 1, none⟩ = some (.int .i64 ((rd_T24 y115 0).f1)) := hcc28 1 _ rfl
                  have hx28_2 : w23.cell? ⟨go28, (0 : Int).toNat * 4 + 2, none⟩ = some (.int .i64 ((rd_T24 y115 0).f2)) := hcc28 2 _ rfl
                  have hx28_3 : w23.cell? ⟨go28, (0 : Int).toNat * 4 + 3, none⟩ = some (.string ((rd_T24 y115 0).f3)) := hcc28 3 _ rfl
                  have hf28_0 : w23.frozen? ⟨go28, (0 : Int).toNat * 4, none⟩ = false := hfr28 0
                  have hf28_1 : w23.frozen? ⟨go28, (0 : Int).toNat * 4 + 1, none⟩ = false := hfr28 1
                  have hf28_2 : w23.frozen? ⟨go28, (0 : Int).toNat * 4 + 2, none⟩ = false := hfr28 2
                  have hf28_3 : w23.frozen? ⟨go28, (0 : Int).toNat * 4 + 3, none⟩ = false := hfr28 3
                  clear hcl28 hcc28 hfr28 hM28
                  (try rw [show ((0 : Int)).toNat = 0 from rfl] at hx28_0)
                  (try simp only [Nat.reduceMul, Nat.zero_mul, Nat.zero_add, Nat.reduceAdd] at hx28_0)
                  (try rw [show ((0 : Int)).toNat = 0 from rfl] at hf28_0)
                  (try simp only [Nat.reduceMul, Nat.zero_mul, Nat.zero_add, Nat.reduceAdd] at hf28_0)
                  (try rw [show ((0 : Int)).toNat = 0 from rfl] at hx28_1)
                  (try simp only [Nat.reduceMul, Nat.zero_mul, Nat.zero_add, Nat.reduceAdd] at hx28_1)
                  (try rw [show ((0 : Int)).toNat = 0 from rfl] at hf28_1)
                  (try simp only [Nat.reduceMul, Nat.zero_mul, Nat.zero_add, Nat.reduceAdd] at hf28_1)
                  (try rw [show ((0 : Int)).toNat = 0 from rfl] at hx28_2)
                  (try simp only [Nat.reduceMul, Nat.zero_mul, Nat.zero_add, Nat.reduceAdd] at hx28_2)
                  (try rw [show ((0 : Int)).toNat = 0 from rfl] at hf28_2)
                  (try simp only [Nat.reduceMul, Nat.zero_mul, Nat.zero_add, Nat.reduceAdd] at hf28_2)
                  (try rw [show ((0 : Int)).toNat = 0 from rfl] at hx28_3)
                  (try simp only [Nat.reduceMul, Nat.zero_mul, Nat.zero_add, Nat.reduceAdd] at hx28_3)
                  (try rw [show ((0 : Int)).toNat = 0 from rfl] at hf28_3)
                  (try simp only [Nat.reduceMul, Nat.zero_mul, Nat.zero_add, Nat.reduceAdd] at hf28_3)
                  replace p28 := eq_true p28
                  replace q28 := eq_true q28
                  have n_ := Aside0.mk (Kd.R_mono (ok' := (fun k_ => some k_ ≠ (.slice (some ad119) y107.length co29 : Value).ownBlock)) HO117.out (fun k_ hk => hk.2))
                  clear HO117
                  have HO117 := n_
                  clear n_
                  have HX30 := Aside0.mk (show Kd.R k24 24 (w23.drewN nd) w.heap.size (fun k_ => some k_ ≠ (.slice (some ad119) y107.length co29 : Value).ownBlock) (.slice (some ⟨go28, 0, none⟩) y115.length co28) y115 from (by (with_reducible repeat (first | apply Kd.R_alloc | apply Kd.R_drewN | apply Kd.R_drew)); exact HO117.out))
                  obtain ⟨ce30, hcl30, hM30, hcc30, hfr30⟩ := Kd.R_elem HX30.out z24 (0 : Int) (by omega) (by have h_ : (0 : Int) < ((y115.length : Int) : Int) := of_decide_eq_true (by first | (with_reducible assumption) | assumption); first | exact h_ | (have e_ := (Kd.R_reads' HO117.out).1; omega) | simpa using h_)
                  obtain rfl := k24_openM hM30
                  have HP30 := Kd.R_seg HX30.out (0 : Int) (by omega) (by have h_ : (0 : Int) < ((y115.length : Int) : Int) := of_decide_eq_true (by first | (with_reducible assumption) | assumption); first | exact h_ | (have e_ := (Kd.R_reads' HO117.out).1; omega) | simpa using h_) (seg := [.int .i64 ((rd_T24 y107 0).f0), .int .i64 ((rd_T24 y107 0).f1), .int .i64 ((rd_T24 y107 0).f2), .string ((rd_T24 y107 0).f3)]) (j := 0) hcl30 hcc30 (show 4 ≤ 4 from by decide) (x' := (⟨(rd_T24 y107 0).f0, (rd_T24 y107 0).f1, (rd_T24 y107 0).f2, (rd_T24 y107 0).f3⟩ : S24)) (k24_mkM _ _ _ (⟨(rd_T24 y107 0).f0, (rd_T24 y107 0).f1, (rd_T24 y107 0).f2, (rd_T24 y107 0).f3⟩ : S24) ) (fun _ hk => hk)
                  have hx30_0 := hcc30 0 _ rfl
                  (try simp only [show (k24).sz = 4 from rfl, Nat.mul_one, Nat.add_zero] at hx30_0)
                  (try rw [show ((0 : Int)).toNat = 0 from rfl] at hx30_0)
                  (try simp only [Nat.reduceMul, Nat.zero_mul, Nat.zero_add, Nat.reduceAdd] at hx30_0)
                  have hf30_0 := hfr30 0
                  (try simp only [show (k24).sz = 4 from rfl, Nat.mul_one, Nat.add_zero] at hf30_0)
                  (try rw [show ((0 : Int)).toNat = 0 from rfl] at hf30_0)
                  (try simp only [Nat.reduceMul, Nat.zero_mul, Nat.zero_add, Nat.reduceAdd] at hf30_0)
                  have hx30_1 := hcc30 1 _ rfl
                  (try simp only [show (k24).sz = 4 from rfl, Nat.mul_one, Nat.add_zero] at hx30_1)
                  (try rw [show ((0 : Int)).toNat = 0 from rfl] at hx30_1)
                  (try simp only [Nat.reduceMul, Nat.zero_mul, Nat.zero_add, Nat.reduceAdd] at hx30_1)
                  have hf30_1 := hfr30 1
                  (try simp only [show (k24).sz = 4 from rfl, Nat.mul_one, Nat.add_zero] at hf30_1)
                  (try rw [show ((0 : Int)).toNat = 0 from rfl] at hf30_1)
                  (try simp only [Nat.reduceMul, Nat.zero_mul, Nat.zero_add, Nat.reduceAdd] at hf30_1)
                  have hx30_2 := hcc30 2 _ rfl
                  (try simp only [show (k24).sz = 4 from rfl, Nat.mul_one, Nat.add_zero] at hx30_2)
                  (try rw [show ((0 : Int)).toNat = 0 from rfl] at hx30_2)
                  (try simp only [Nat.reduceMul, Nat.zero_mul, Nat.zero_add, Nat.reduceAdd] at hx30_2)
                  have hf30_2 := hfr30 2
                  (try simp only [show (k24).sz = 4 from rfl, Nat.mul_one, Nat.add_zero] at hf30_2)
                  (try rw [show ((0 : Int)).toNat = 0 from rfl] at hf30_2)
                  (try simp only [Nat.reduceMul, Nat.zero_mul, Nat.zero_add, Nat.reduceAdd] at hf30_2)
                  have hx30_3 := hcc30 3 _ rfl
                  (try simp only [show (k24).sz = 4 from rfl, Nat.mul_one, Nat.add_zero] at hx30_3)
                  (try rw [show ((0 : Int)).toNat = 0 from rfl] at hx30_3)
                  (try simp only [Nat.reduceMul, Nat.zero_mul, Nat.zero_add, Nat.reduceAdd] at hx30_3)
                  have hf30_3 := hfr30 3
                  (try simp only [show (k24).sz = 4 from rfl, Nat.mul_one, Nat.add_zero] at hf30_3)
                  (try rw [show ((0 : Int)).toNat = 0 from rfl] at hf30_3)
                  (try simp only [Nat.reduceMul, Nat.zero_mul, Nat.zero_add, Nat.reduceAdd] at hf30_3)
                  clear hcl30 hcc30 hfr30 hM30
                  obtain ⟨w31, hw⟩ : ∃ W_ : World, W_ = (((((w23.drewN nd).setCell ⟨go28, 0, none⟩ (.int .i64 ((rd_T24 y107 0).f0))).setCell ⟨go28, 1, none⟩ (.int .i64 ((rd_T24 y107 0).f1))).setCell ⟨go28, 2, none⟩ (.int .i64 ((rd_T24 y107 0).f2))).setCell ⟨go28, 3, none⟩ (.string ((rd_T24 y107 0).f3))) := ⟨_, rfl⟩
                  have hg : (w23.drewN nd).grownBy w31 (some go28) := (by rw [hw]; exact HP30.2)
                  have hp_ : Kd.R k24 24 w31 w.heap.size (fun k_ => some k_ ≠ (.slice (some ad119) y107.length co29 : Value).ownBlock) (.slice (some ⟨go28, 0, none⟩) y115.length co28) y120 := (by rw [hw, Ny120.out]; exact HP30.1)
                  clear HP30
                  have n0_ := Aside0.mk (Kd.R_after (v := (.slice (some ⟨go28, 0, none⟩) y115.length co28)) (v1 := (.slice (some ⟨go28, 0, none⟩) y115.length co28)) (ok := (fun _ => True)) (by (with_reducible repeat (first | apply Kd.R_alloc | apply Kd.R_drewN | apply Kd.R_drew)); exact HO109.out) hg (.inl rfl))
                  have n1_ := Aside0.mk (hp_)
                  have n2_ := Aside0.mk ((by rw [hw]; exact below_set (below_set (below_set (below_set (pw_below_drewN HB.out nd) GB28.out) GB28.out) GB28.out) GB28.out : Below w.heap.size w w31))
                  clear HO109
                  clear HO117
                  clear HB
                  have HO109 := n0_
                  have HO117 := n1_
                  have HB := n2_
                  clear n0_ n1_ n2_
                  clear hg hp_
                  subst hw
                  go_wp2
                  go_meet
                  case rel => exact ⟨_, (y120), H', ⟨by have := HJ8.out; first | omega | exact Nat.le_refl _⟩, ⟨by (with_reducible repeat (first | apply Kd.R_alloc | apply Kd.R_drewN | apply Kd.R_drew)); exact Kd.R_mono HO109.out (fun _ hk => hk.2)⟩, ⟨by (with_reducible repeat (first | apply Kd.R_alloc | apply Kd.R_drewN | apply Kd.R_drew)); exact HO117.out⟩, ⟨by repeat (first | (with_reducible first | exact HB.out | apply below_alloc | apply pw_below_drewN | apply below_drew1) | exact HB.out)⟩⟩
                · rw [if_neg c27] at H
                  exact absurd H (by simp)
              · rw [if_neg c26] at H
                exact absurd H (by simp)
            · rw [if_neg c25] at H
              have c25b0 : (t118 == 0) = false := beq_eq_false_iff_ne.mpr c25
              have c25b1 : (t118 != 0) = true := bne_iff_ne.mpr c25
              (first | rw [c25b0] | (simp only [i64_w, i32_w]; rw [c25b0]) | skip)
              have H' := Aside0.mk H
              clear H
              go_wp2
              go_meet
              case rel => exact ⟨_, (y115), H', ⟨by have := HJ8.out; first | omega | exact Nat.le_refl _⟩, ⟨by (with_reducible repeat (first | apply Kd.R_alloc | apply Kd.R_drewN | apply Kd.R_drew)); exact Kd.R_mono HO109.out (fun _ hk => hk.2)⟩, ⟨by (with_reducible repeat (first | apply Kd.R_alloc | apply Kd.R_drewN | apply Kd.R_drew)); exact Kd.R_mono HO117.out (fun _ hk => hk.2)⟩, ⟨by repeat (first | (with_reducible first | exact HB.out | apply below_alloc | apply pw_below_drewN | apply below_drew1) | exact HB.out)⟩⟩
          case rest =>
            clear HC18
            try clear c1
            try clear p1
            try clear q1
            try clear hx1
            try clear qi1
            try clear c2
            try clear p2
            try clear q2
            try clear hx2
            try clear qi2
            try clear c3
            try clear hx3
            try clear c4
            try clear c8
            try clear c11
            try clear c11b0
            try clear c11b1
            try clear p11
            try clear q11
            try clear hx11
            try clear qi11
            try clear c12
            try clear c13
            try clear c17
            try clear c25
            try clear c25b0
            try clear c25b1
            try clear c26
            try clear c26b0
            try clear c26b1
            try clear c27
            try clear c27b0
            try clear c27b1
            try clear c28
            try clear p28
            try clear q28
            try clear hx28
            try clear qi28
            try clear hf28
            try clear c30
            try clear hx30
            try clear hf30
            try clear hx119_0
            try clear hx119_1
            try clear hx119_2
            try clear hx119_3
            try clear hx28_0
            try clear hx28_1
            try clear hx28_2
            try clear hx28_3
            try clear hx30_0
            try clear hx30_1
            try clear hx30_2
            try clear hx30_3
            try clear p119
            try clear p2
            try clear p28
            try clear q119
            try clear q28
            obtain ⟨kq, x14_17, HA, HJ17, HO_13, HO_14, HB⟩ := hcut
            cases kq with
            | zero => exact absurd HA.out (by simp [federationlaw2_KeyRowOrder.j1])
            | succ kj17 =>
              have H := HA.out
              clear HA
              simp only [federationlaw2_KeyRowOrder.j1] at H
              replace H := Option.bind_eq_some_iff.mp H
              obtain ⟨t121, A320, H⟩ := H
              replace H : (if t121 = 0 then (if 1 < (y107.length : Int) then (if 1 < (x14_17.length : Int) then (federationlaw2_KeyRowOrder.j2 kj17 y107 (x14_17.set (1 : Int).toNat (⟨(rd_T24 y107 1).f0, (rd_T24 y107 1).f1, (rd_T24 y107 1).f2, (rd_T24 y107 1).f3⟩ : S24))) else (none)) else (none)) else (federationlaw2_KeyRowOrder.j2 kj17 y107 x14_17)) = some r := H
              have A32 := Aside0.mk A320
              clear A320
              have HC33 := Aside0.mk H
              clear H
              go_upto_if 54 with (first | ((with_reducible refine gate_callee (f := 17) rfl ?_); refine goesL_ (some 53) rfl rfl Try.func17 (by kernel_rfl) rfl #[.int .i64 a3, .int .i64 3] rfl (by (try simp only [List.map_toArray, List.map_cons, List.map_nil]); first | done | rfl | (simp only [List.length_drop, List.length_take]; rfl)) ?_; (with_reducible refine (federationlaw2_within.calls a3 3 t121 _ A32.out).mono ?_); rintro e w' ⟨rfl, ⟨nd, rfl⟩⟩; refine ⟨_, rfl, ?_⟩))
              (try simp only [Act.put, List.setIfInBounds_toArray, List.set_cons_zero, List.set_cons_succ])
              go_cut [] (fun wc => ∃ (kq : Nat) (x14_32 : List (S24)), Aside0 (federationlaw2_KeyRowOrder.j2 kq y107 x14_32 = some r) ∧ Aside0 (kq ≤ kj17) ∧ Aside0 (Kd.R k24 24 wc w.heap.size (fun k_ => some k_ ≠ (v116 : Value).ownBlock) v108 y107) ∧ Aside0 (Kd.R k24 24 wc w.heap.size (fun k_ => some k_ ≠ (v108 : Value).ownBlock) v116 x14_32) ∧ Aside0 (Below w.heap.size w wc))
              case first =>
                have H := HC33.out
                clear HC33
                by_cases c34 : t121 = 0
                · rw [if_pos c34] at H
                  have c34b0 : (t121 == 0) = true := beq_iff_eq.mpr c34
                  have c34b1 : (t121 != 0) = false := bne_eq_false_iff_eq.mpr c34
                  clear c34
                  (first | rw [c34b0] | (simp only [i64_w, i32_w]; rw [c34b0]) | skip)
                  by_cases c35 : 1 < (y107.length : Int)
                  · rw [if_pos c35] at H
                    have c35b0 : decide (1 < (y107.length : Int)) = true := decide_eq_true c35
                    have c35b1 : decide (1 < y107.length) = true := decide_eq_true (by omega)
                    clear c35
                    by_cases c36 : 1 < (x14_17.length : Int)
                    · rw [if_pos c36] at H
                      have c36b0 : decide (1 < (x14_17.length : Int)) = true := decide_eq_true c36
                      have c36b1 : decide (1 < x14_17.length) = true := decide_eq_true (by omega)
                      clear c36
                      obtain ⟨y123, hy123⟩ : ∃ y_ : List (S24), y_ = (x14_17.set (1 : Int).toNat (⟨(rd_T24 y107 1).f0, (rd_T24 y107 1).f1, (rd_T24 y107 1).f2, (rd_T24 y107 1).f3⟩ : S24)) := ⟨_, rfl⟩
                      replace H : (federationlaw2_KeyRowOrder.j2 kj17 y107 y123) = some r := by first | (rw [hy123]; with_reducible exact H) | (have H2_ := (Option.bind_some _ _).symm.trans H; rw [hy123]; with_reducible exact H2_) | (have H2_ := (Option.bind_some _ _).symm.trans H; with_reducible exact H2_) | with_reducible exact H | (rw [hy123]; exact H) | exact H
                      have Ny123 := Aside0.mk hy123
                      clear hy123
                      have H' := Aside0.mk H
                      clear H
                      obtain ⟨Ao38, co38, eo38⟩ := Kd.R_slice HO_13.out
                      subst eo38
                      have p122 : 0 ≤ (1 : Int) := (by omega)
                      have q122 : 1 < (y107.length : Int) := of_decide_eq_true (by first | (with_reducible assumption) | assumption)
                      obtain ⟨ad122, e122, hx122_0, hx122_1, hx122_2, hx122_3⟩ := at_T24 (Kd.R_reads' HO_13.out).2.2 1 p122 q122
                      cases e122
                      (try simp only [show (1 : Int).toNat = 1 from rfl, Nat.reduceMul, Nat.reduceEqDiff, Go.Addr.add, ↓reduceIte] at hx122_0)
                      (try simp only [show (1 : Int).toNat = 1 from rfl, Nat.reduceMul, Nat.reduceEqDiff, Go.Addr.add, ↓reduceIte] at hx122_1)
                      (try simp only [show (1 : Int).toNat = 1 from rfl, Nat.reduceMul, Nat.reduceEqDiff, Go.Addr.add, ↓reduceIte] at hx122_2)
                      (try simp only [show (1 : Int).toNat = 1 from rfl, Nat.reduceMul, Nat.reduceEqDiff, Go.Addr.add, ↓reduceIte] at hx122_3)
                      have qi122 : (1 < y107.length) = True := eq_true (by omega)
                      (try rw [show ((1 : Int)).toNat = 1 from rfl] at hx122_0)
                      (try rw [show 1 * 4 = 4 from rfl] at hx122_0)
                      (try rw [show ((1 : Int)).toNat = 1 from rfl] at hx122_1)
                      (try rw [show 1 * 4 = 4 from rfl] at hx122_1)
                      (try rw [show ((1 : Int)).toNat = 1 from rfl] at hx122_2)
                      (try rw [show 1 * 4 = 4 from rfl] at hx122_2)
                      (try rw [show ((1 : Int)).toNat = 1 from rfl] at hx122_3)
                      (try rw [show 1 * 4 = 4 from rfl] at hx122_3)
                      replace p122 := eq_true p122
                      replace q122 := eq_true q122
                      have p37 : 0 ≤ (1 : Int) := (by omega)
                      have q37 : (1 : Int) < ((x14_17.length : Int) : Int) := of_decide_eq_true (by first | (with_reducible assumption) | assumption)
                      have qi37 : (1 < x14_17.length) = True := eq_true (by omega)
                      obtain ⟨go37, co37, eo37, gb37, gl37, cl37, HG37⟩ := Kd.R_form HO_14.out (by omega)
                      (first | cases eo37 | (injection eo37 with ea_ en_ ec_; (first | subst ea_ | (injection ea_ with ea_; subst ea_)); subst ec_; clear en_))
                      have GB37 := Aside0.mk gb37
                      have GG37 := Aside0.mk HG37
                      clear gb37 gl37 HG37
                      obtain ⟨ce37, hcl37, hM37, hcc37, hfr37⟩ := Kd.R_elem HO_14.out z24 (1 : Int) p37 q37
                      obtain rfl := k24_openM hM37
                      have hx37_0 : wc.cell? ⟨go37, (1 : Int).toNat * 4, none⟩ = some (.int .i64 ((rd_T24 x14_17 1).f0)) := hcc37 0 _ rfl
                      have hx37_1 : wc.cell? ⟨go37, (1 : Int).toNat * 4 + 1, none⟩ = some (.int .i64 ((rd_T24 x14_17 1).f1)) := hcc37 1 _ rfl
                      have hx37_2 : wc.cell? ⟨go37, (1 : Int).toNat * 4 + 2, none⟩ = some (.int .i64 ((rd_T24 x14_17 1).f2)) := hcc37 2 _ rfl
                      have hx37_3 : wc.cell? ⟨go37, (1 : Int).toNat * 4 + 3, none⟩ = some (.string ((rd_T24 x14_17 1).f3)) := hcc37 3 _ rfl
                      have hf37_0 : wc.frozen? ⟨go37, (1 : Int).toNat * 4, none⟩ = false := hfr37 0
                      have hf37_1 : wc.frozen? ⟨go37, (1 : Int).toNat * 4 + 1, none⟩ = false := hfr37 1
                      have hf37_2 : wc.frozen? ⟨go37, (1 : Int).toNat * 4 + 2, none⟩ = false := hfr37 2
                      have hf37_3 : wc.frozen? ⟨go37, (1 : Int).toNat * 4 + 3, none⟩ = false := hfr37 3
                      clear hcl37 hcc37 hfr37 hM37
                      (try rw [show ((1 : Int)).toNat = 1 from rfl] at hx37_0)
                      (try simp only [Nat.reduceMul, Nat.zero_mul, Nat.zero_add, Nat.reduceAdd] at hx37_0)
                      (try rw [show ((1 : Int)).toNat = 1 from rfl] at hf37_0)
                      (try simp only [Nat.reduceMul, Nat.zero_mul, Nat.zero_add, Nat.reduceAdd] at hf37_0)
                      (try rw [show ((1 : Int)).toNat = 1 from rfl] at hx37_1)
                      (try simp only [Nat.reduceMul, Nat.zero_mul, Nat.zero_add, Nat.reduceAdd] at hx37_1)
                      (try rw [show ((1 : Int)).toNat = 1 from rfl] at hf37_1)
                      (try simp only [Nat.reduceMul, Nat.zero_mul, Nat.zero_add, Nat.reduceAdd] at hf37_1)
                      (try rw [show ((1 : Int)).toNat = 1 from rfl] at hx37_2)
                      (try simp only [Nat.reduceMul, Nat.zero_mul, Nat.zero_add, Nat.reduceAdd] at hx37_2)
                      (try rw [show ((1 : Int)).toNat = 1 from rfl] at hf37_2)
                      (try simp only [Nat.reduceMul, Nat.zero_mul, Nat.zero_add, Nat.reduceAdd] at hf37_2)
                      (try rw [show ((1 : Int)).toNat = 1 from rfl] at hx37_3)
                      (try simp only [Nat.reduceMul, Nat.zero_mul, Nat.zero_add, Nat.reduceAdd] at hx37_3)
                      (try rw [show ((1 : Int)).toNat = 1 from rfl] at hf37_3)
                      (try simp only [Nat.reduceMul, Nat.zero_mul, Nat.zero_add, Nat.reduceAdd] at hf37_3)
                      replace p37 := eq_true p37
                      replace q37 := eq_true q37
                      have HX39 := Aside0.mk (show Kd.R k24 24 (wc.drewN nd) w.heap.size (fun k_ => some k_ ≠ (.slice (some ad122) y107.length co38 : Value).ownBlock) (.slice (some ⟨go37, 0, none⟩) x14_17.length co37) x14_17 from (by (with_reducible repeat (first | apply Kd.R_alloc | apply Kd.R_drewN | apply Kd.R_drew)); exact HO_14.out))
                      obtain ⟨ce39, hcl39, hM39, hcc39, hfr39⟩ := Kd.R_elem HX39.out z24 (1 : Int) (by omega) (by have h_ : (1 : Int) < ((x14_17.length : Int) : Int) := of_decide_eq_true (by first | (with_reducible assumption) | assumption); first | exact h_ | (have e_ := (Kd.R_reads' HO_14.out).1; omega) | simpa using h_)
                      obtain rfl := k24_openM hM39
                      have HP39 := Kd.R_seg HX39.out (1 : Int) (by omega) (by have h_ : (1 : Int) < ((x14_17.length : Int) : Int) := of_decide_eq_true (by first | (with_reducible assumption) | assumption); first | exact h_ | (have e_ := (Kd.R_reads' HO_14.out).1; omega) | simpa using h_) (seg := [.int .i64 ((rd_T24 y107 1).f0), .int .i64 ((rd_T24 y107 1).f1), .int .i64 ((rd_T24 y107 1).f2), .string ((rd_T24 y107 1).f3)]) (j := 0) hcl39 hcc39 (show 4 ≤ 4 from by decide) (x' := (⟨(rd_T24 y107 1).f0, (rd_T24 y107 1).f1, (rd_T24 y107 1).f2, (rd_T24 y107 1).f3⟩ : S24)) (k24_mkM _ _ _ (⟨(rd_T24 y107 1).f0, (rd_T24 y107 1).f1, (rd_T24 y107 1).f2, (rd_T24 y107 1).f3⟩ : S24) ) (fun _ hk => hk)
                      have hx39_0 := hcc39 0 _ rfl
                      (try simp only [show (k24).sz = 4 from rfl, Nat.mul_one, Nat.add_zero] at hx39_0)
                      (try rw [show ((1 : Int)).toNat = 1 from rfl] at hx39_0)
                      (try simp only [Nat.reduceMul, Nat.zero_mul, Nat.zero_add, Nat.reduceAdd] at hx39_0)
                      have hf39_0 := hfr39 0
                      (try simp only [show (k24).sz = 4 from rfl, Nat.mul_one, Nat.add_zero] at hf39_0)
                      (try rw [show ((1 : Int)).toNat = 1 from rfl] at hf39_0)
                      (try simp only [Nat.reduceMul, Nat.zero_mul, Nat.zero_add, Nat.reduceAdd] at hf39_0)
                      have hx39_1 := hcc39 1 _ rfl
                      (try simp only [show (k24).sz = 4 from rfl, Nat.mul_one, Nat.add_zero] at hx39_1)
                      (try rw [show ((1 : Int)).toNat = 1 from rfl] at hx39_1)
                      (try simp only [Nat.reduceMul, Nat.zero_mul, Nat.zero_add, Nat.reduceAdd] at hx39_1)
                      have hf39_1 := hfr39 1
                      (try simp only [show (k24).sz = 4 from rfl, Nat.mul_one, Nat.add_zero] at hf39_1)
                      (try rw [show ((1 : Int)).toNat = 1 from rfl] at hf39_1)
                      (try simp only [Nat.reduceMul, Nat.zero_mul, Nat.zero_add, Nat.reduceAdd] at hf39_1)
                      have hx39_2 := hcc39 2 _ rfl
                      (try simp only [show (k24).sz = 4 from rfl, Nat.mul_one, Nat.add_zero] at hx39_2)
                      (try rw [show ((1 : Int)).toNat = 1 from rfl] at hx39_2)
                      (try simp only [Nat.reduceMul, Nat.zero_mul, Nat.zero_add, Nat.reduceAdd] at hx39_2)
                      have hf39_2 := hfr39 2
                      (try simp only [show (k24).sz = 4 from rfl, Nat.mul_one, Nat.add_zero] at hf39_2)
                      (try rw [show ((1 : Int)).toNat = 1 from rfl] at hf39_2)
                      (try simp only [Nat.reduceMul, Nat.zero_mul, Nat.zero_add, Nat.reduceAdd] at hf39_2)
                      have hx39_3 := hcc39 3 _ rfl
                      (try simp only [show (k24).sz = 4 from rfl, Nat.mul_one, Nat.add_zero] at hx39_3)
                      (try rw [show ((1 : Int)).toNat = 1 from rfl] at hx39_3)
                      (try simp only [Nat.reduceMul, Nat.zero_mul, Nat.zero_add, Nat.reduceAdd] at hx39_3)
                      have hf39_3 := hfr39 3
                      (try simp only [show (k24).sz = 4 from rfl, Nat.mul_one, Nat.add_zero] at hf39_3)
                      (try rw [show ((1 : Int)).toNat = 1 from rfl] at hf39_3)
                      (try simp only [Nat.reduceMul, Nat.zero_mul, Nat.zero_add, Nat.reduceAdd] at hf39_3)
                      clear hcl39 hcc39 hfr39 hM39
                      obtain ⟨w40, hw⟩ : ∃ W_ : World, W_ = (((((wc.drewN nd).setCell ⟨go37, 4, none⟩ (.int .i64 ((rd_T24 y107 1).f0))).setCell ⟨go37, 5, none⟩ (.int .i64 ((rd_T24 y107 1).f1))).setCell ⟨go37, 6, none⟩ (.int .i64 ((rd_T24 y107 1).f2))).setCell ⟨go37, 7, none⟩ (.string ((rd_T24 y107 1).f3))) := ⟨_, rfl⟩
                      have hg : (wc.drewN nd).grownBy w40 (some go37) := (by rw [hw]; exact HP39.2)
                      have hp_ : Kd.R k24 24 w40 w.heap.size (fun k_ => some k_ ≠ (.slice (some ad122) y107.length co38 : Value).ownBlock) (.slice (some ⟨go37, 0, none⟩) x14_17.length co37) y123 := (by rw [hw, Ny123.out]; exact HP39.1)
                      clear HP39
                      have n0_ := Aside0.mk (Kd.R_after (v := (.slice (some ⟨go37, 0, none⟩) x14_17.length co37)) (v1 := (.slice (some ⟨go37, 0, none⟩) x14_17.length co37)) (ok := (fun _ => True)) (by (with_reducible repeat (first | apply Kd.R_alloc | apply Kd.R_drewN | apply Kd.R_drew)); exact Kd.R_mono HO_13.out (fun _ hk => ⟨trivial, hk⟩)) hg (.inl rfl))
                      have n1_ := Aside0.mk (hp_)
                      have n2_ := Aside0.mk ((by rw [hw]; exact below_set (below_set (below_set (below_set (pw_below_drewN HB.out nd) GB37.out) GB37.out) GB37.out) GB37.out : Below w.heap.size w w40))
                      clear HO_13
                      clear HO_14
                      clear HB
                      have HO_13 := n0_
                      have HO_14 := n1_
                      have HB := n2_
                      clear n0_ n1_ n2_
                      clear hg hp_
                      subst hw
                      go_wp2
                      go_meet
                      case rel => exact ⟨_, (y123), H', ⟨by have := HJ8.out; have := HJ17.out; first | omega | exact Nat.le_refl _⟩, ⟨by (with_reducible repeat (first | apply Kd.R_alloc | apply Kd.R_drewN | apply Kd.R_drew)); exact Kd.R_mono HO_13.out (fun _ hk => hk.2)⟩, ⟨by (with_reducible repeat (first | apply Kd.R_alloc | apply Kd.R_drewN | apply Kd.R_drew)); exact HO_14.out⟩, ⟨by repeat (first | (with_reducible first | exact HB.out | apply below_alloc | apply pw_below_drewN | apply below_drew1) | exact HB.out)⟩⟩
                    · rw [if_neg c36] at H
                      exact absurd H (by simp)
                  · rw [if_neg c35] at H
                    exact absurd H (by simp)
                · rw [if_neg c34] at H
                  have c34b0 : (t121 == 0) = false := beq_eq_false_iff_ne.mpr c34
                  have c34b1 : (t121 != 0) = true := bne_iff_ne.mpr c34
                  (first | rw [c34b0] | (simp only [i64_w, i32_w]; rw [c34b0]) | skip)
                  have H' := Aside0.mk H
                  clear H
                  go_wp2
                  go_meet
                  case rel => exact ⟨_, (x14_17), H', ⟨by have := HJ8.out; have := HJ17.out; first | omega | exact Nat.le_refl _⟩, ⟨by (with_reducible repeat (first | apply Kd.R_alloc | apply Kd.R_drewN | apply Kd.R_drew)); exact HO_13.out⟩, ⟨by (with_reducible repeat (first | apply Kd.R_alloc | apply Kd.R_drewN | apply Kd.R_drew)); exact HO_14.out⟩, ⟨by repeat (first | (with_reducible first | exact HB.out | apply below_alloc | apply pw_below_drewN | apply below_drew1) | exact HB.out)⟩⟩
              case rest =>
                clear HC33
                try clear c1
                try clear p1
                try clear q1
                try clear hx1
                try clear qi1
                try clear c2
                try clear p2
                try clear q2
                try clear hx2
                try clear qi2
                try clear c3
                try clear p3
                try clear q3
                try clear hx3
                try clear qi3
                try clear c4
                try clear c8
                try clear c11
                try clear c11b0
                try clear c11b1
                try clear p11
                try clear q11
                try clear hx11
                try clear qi11
                try clear c12
                try clear p12
                try clear q12
                try clear hx12
                try clear qi12
                try clear c13
                try clear c17
                try clear c25
                try clear c25b0
                try clear c25b1
                try clear c26
                try clear c26b0
                try clear c26b1
                try clear c27
                try clear c27b0
                try clear c27b1
                try clear c28
                try clear p28
                try clear q28
                try clear hx28
                try clear qi28
                try clear hf28
                try clear c30
                try clear hx30
                try clear hf30
                try clear c34
                try clear c34b0
                try clear c34b1
                try clear c35
                try clear c35b0
                try clear c35b1
                try clear c36
                try clear c36b0
                try clear c36b1
                try clear c37
                try clear p37
                try clear q37
                try clear hx37
                try clear qi37
                try clear hf37
                try clear c39
                try clear hx39
                try clear hf39
                try clear hx119_0
                try clear hx119_1
                try clear hx119_2
                try clear hx119_3
                try clear hx122_0
                try clear hx122_1
                try clear hx122_2
                try clear hx122_3
                try clear hx28_0
                try clear hx28_1
                try clear hx28_2
                try clear hx28_3
                try clear hx30_0
                try clear hx30_1
                try clear hx30_2
                try clear hx30_3
                try clear hx37_0
                try clear hx37_1
                try clear hx37_2
                try clear hx37_3
                try clear hx39_0
                try clear hx39_1
                try clear hx39_2
                try clear hx39_3
                try clear p1
                try clear p11
                try clear p119
                try clear p122
                try clear p2
                try clear p28
                try clear p37
                try clear q1
                try clear q11
                try clear q119
                try clear q122
                try clear q2
                try clear q28
                try clear q37
                obtain ⟨kq, x14_32, HA, HJ32, HO_13, HO_14, HB⟩ := hcut
                cases kq with
                | zero => exact absurd HA.out (by simp [federationlaw2_KeyRowOrder.j2])
                | succ kj32 =>
                  have H := HA.out
                  clear HA
                  simp only [federationlaw2_KeyRowOrder.j2] at H
                  by_cases c41 : 0 < (y107.length : Int)
                  · rw [if_pos c41] at H
                    have c41b0 : decide (0 < (y107.length : Int)) = true := decide_eq_true c41
                    have c41b1 : decide (0 < y107.length) = true := decide_eq_true (by omega)
                    clear c41
                    by_cases c42 : 0 < (x14_32.length : Int)
                    · rw [if_pos c42] at H
                      have c42b0 : decide (0 < (x14_32.length : Int)) = true := decide_eq_true c42
                      have c42b1 : decide (0 < x14_32.length) = true := decide_eq_true (by omega)
                      clear c42
                      replace H := Option.bind_eq_some_iff.mp H
                      obtain ⟨t126, A430, H⟩ := H
                      replace H : (if t126 = 0 then (if 1 < (y107.length : Int) then (if 1 < (x14_32.length : Int) then ((federationref1_Order.f kj32 ((rd_T24 y107 1).f0) ((rd_T24 y107 1).f1) ((rd_T24 y107 1).f2) ((rd_T24 y107 1).f3) ((rd_T24 x14_32 1).f0) ((rd_T24 x14_32 1).f1) ((rd_T24 x14_32 1).f2) ((rd_T24 x14_32 1).f3)).bind fun t129 => ((key_Row.f kj32 y107).bind fun t130 => ((key_Row.f kj32 x14_32).bind fun t131 => (if ((Op.bytesLess t130.toList t131.toList) == (decide (t129 < 0))) = true then (some ((t130.toList == t131.toList) == (t129 == 0))) else (none))))) else (none)) else (none)) else ((key_Row.f kj32 y107).bind fun t132 => ((key_Row.f kj32 x14_32).bind fun t133 => (if ((Op.bytesLess t132.toList t133.toList) == (decide (t126 < 0))) = true then (some ((t132.toList == t133.toList) == (t126 == 0))) else (none))))) = some r := H
                      have A43 := Aside0.mk A430
                      clear A430
                      by_cases c44 : t126 = 0
                      · rw [if_pos c44] at H
                        have c44b0 : (t126 == 0) = true := beq_iff_eq.mpr c44
                        have c44b1 : (t126 != 0) = false := bne_eq_false_iff_eq.mpr c44
                        clear c44
                        by_cases c45 : 1 < (y107.length : Int)
                        · rw [if_pos c45] at H
                          have c45b0 : decide (1 < (y107.length : Int)) = true := decide_eq_true c45
                          have c45b1 : decide (1 < y107.length) = true := decide_eq_true (by omega)
                          clear c45
                          by_cases c46 : 1 < (x14_32.length : Int)
                          · rw [if_pos c46] at H
                            have c46b0 : decide (1 < (x14_32.length : Int)) = true := decide_eq_true c46
                            have c46b1 : decide (1 < x14_32.length) = true := decide_eq_true (by omega)
                            clear c46
                            replace H := Option.bind_eq_some_iff.mp H
                            obtain ⟨t129, A470, H⟩ := H
                            replace H : ((key_Row.f kj32 y107).bind fun t130 => ((key_Row.f kj32 x14_32).bind fun t131 => (if ((Op.bytesLess t130.toList t131.toList) == (decide (t129 < 0))) = true then (some ((t130.toList == t131.toList) == (t129 == 0))) else (none)))) = some r := H
                            have A47 := Aside0.mk A470
                            clear A470
                            replace H := Option.bind_eq_some_iff.mp H
                            obtain ⟨t130, A480, H⟩ := H
                            replace H : ((key_Row.f kj32 x14_32).bind fun t131 => (if ((Op.bytesLess t130.toList t131.toList) == (decide (t129 < 0))) = true then (some ((t130.toList == t131.toList) == (t129 == 0))) else (none))) = some r := H
                            have A48 := Aside0.mk A480
                            clear A480
                            replace H := Option.bind_eq_some_iff.mp H
                            obtain ⟨t131, A490, H⟩ := H
                            replace H : (if ((Op.bytesLess t130.toList t131.toList) == (decide (t129 < 0))) = true then (some ((t130.toList == t131.toList) == (t129 == 0))) else (none)) = some r := H
                            have A49 := Aside0.mk A490
                            clear A490
                            by_cases c50 : ((Op.bytesLess t130.toList t131.toList) == (decide (t129 < 0))) = true
                            · rw [if_pos c50] at H
                              have c50b0 : ((Op.bytesLess t130.toList t131.toList) == (decide (t129 < 0))) = true := c50
                              (try (have c50b1 : decide ((Op.bytesLess t130.toList t131.toList) = (decide (t129 < 0))) = true := by simpa using c50))
                              (try (have c50b2 : ((Op.bytesLess t130.toList t131.toList) == (decide (t129 < 0))) = true := by simpa using c50))
                              clear c50
                              obtain rfl := Option.some.inj H
                              try go_wp2
                              have n0_ := Aside0.mk (Kd.R_drew HO_13.out)
                              have n1_ := Aside0.mk (Kd.R_drew HO_14.out)
                              have n2_ := Aside0.mk (below_drew1 HB.out)
                              clear HO_13
                              clear HO_14
                              clear HB
                              have HO_13 := n0_
                              have HO_14 := n1_
                              have HB := n2_
                              clear n0_ n1_ n2_
                              obtain ⟨Ao52, co52, eo52⟩ := Kd.R_slice HO_13.out
                              (first | subst eo52 | (injection eo52 with f1_ f2_ f3_; have f4_ := f1_.symm; have f5_ := f3_.symm; clear f1_ f2_ f3_; subst f4_; subst f5_))
                              have p124 : 0 ≤ (0 : Int) := (by omega)
                              have q124 : 0 < (y107.length : Int) := of_decide_eq_true (by first | (with_reducible assumption) | assumption)
                              obtain ⟨ad124, e124, hx124_0, hx124_1, hx124_2, hx124_3⟩ := at_T24 (Kd.R_reads' HO_13.out).2.2 0 p124 q124
                              cases e124
                              have qi124 : (0 < y107.length) = True := eq_true (by omega)
                              (try rw [show ((0 : Int)).toNat = 0 from rfl] at hx124_0)
                              (try rw [show 0 * 4 = 0 from rfl] at hx124_0)
                              (try rw [Addr.add_zero'] at hx124_0)
                              (try rw [show ((0 : Int)).toNat = 0 from rfl] at hx124_1)
                              (try rw [show 0 * 4 = 0 from rfl] at hx124_1)
                              (try rw [Addr.add_zero'] at hx124_1)
                              (try rw [show ((0 : Int)).toNat = 0 from rfl] at hx124_2)
                              (try rw [show 0 * 4 = 0 from rfl] at hx124_2)
                              (try rw [Addr.add_zero'] at hx124_2)
                              (try rw [show ((0 : Int)).toNat = 0 from rfl] at hx124_3)
                              (try rw [show 0 * 4 = 0 from rfl] at hx124_3)
                              (try rw [Addr.add_zero'] at hx124_3)
                              replace p124 := eq_true p124
                              replace q124 := eq_true q124
                              obtain ⟨Ao53, co53, eo53⟩ := Kd.R_slice HO_14.out
                              (first | subst eo53 | (injection eo53 with f1_ f2_ f3_; have f4_ := f1_.symm; have f5_ := f3_.symm; clear f1_ f2_ f3_; subst f4_; subst f5_))
                              have p125 : 0 ≤ (0 : Int) := (by omega)
                              have q125 : 0 < (x14_32.length : Int) := of_decide_eq_true (by first | (with_reducible assumption) | assumption)
                              obtain ⟨ad125, e125, hx125_0, hx125_1, hx125_2, hx125_3⟩ := at_T24 (Kd.R_reads' HO_14.out).2.2 0 p125 q125
                              cases e125
                              have qi125 : (0 < x14_32.length) = True := eq_true (by omega)
                              (try rw [show ((0 : Int)).toNat = 0 from rfl] at hx125_0)
                              (try rw [show 0 * 4 = 0 from rfl] at hx125_0)
                              (try rw [Addr.add_zero'] at hx125_0)
                              (try rw [show ((0 : Int)).toNat = 0 from rfl] at hx125_1)
                              (try rw [show 0 * 4 = 0 from rfl] at hx125_1)
                              (try rw [Addr.add_zero'] at hx125_1)
                              (try rw [show ((0 : Int)).toNat = 0 from rfl] at hx125_2)
                              (try rw [show 0 * 4 = 0 from rfl] at hx125_2)
                              (try rw [Addr.add_zero'] at hx125_2)
                              (try rw [show ((0 : Int)).toNat = 0 from rfl] at hx125_3)
                              (try rw [show 0 * 4 = 0 from rfl] at hx125_3)
                              (try rw [Addr.add_zero'] at hx125_3)
                              replace p125 := eq_true p125
                              replace q125 := eq_true q125
                              refine start_ (n := 8) (S := fun w' => w'.cell? ad124 = some (.int .i64 ((rd_T24 y107 0).f0)) ∧ w'.cell? ⟨ad124.block, ad124.off + 1, none⟩ = some (.int .i64 ((rd_T24 y107 0).f1)) ∧ w'.cell? ⟨ad124.block, ad124.off + 2, none⟩ = some (.int .i64 ((rd_T24 y107 0).f2)) ∧ w'.cell? ⟨ad124.block, ad124.off + 3, none⟩ = some (.string ((rd_T24 y107 0).f3)) ∧ w'.cell? ad125 = some (.int .i64 ((rd_T24 x14_32 0).f0)) ∧ w'.cell? ⟨ad125.block, ad125.off + 1, none⟩ = some (.int .i64 ((rd_T24 x14_32 0).f1)) ∧ w'.cell? ⟨ad125.block, ad125.off + 2, none⟩ = some (.int .i64 ((rd_T24 x14_32 0).f2)) ∧ w'.cell? ⟨ad125.block, ad125.off + 3, none⟩ = some (.string ((rd_T24 x14_32 0).f3))) (ds := []) #[false, false, false, false, false, false, false, false] (by kernel_rfl) rfl rfl ⟨hx124_0, hx124_1, hx124_2, hx124_3, hx125_0, hx125_1, hx125_2, hx125_3⟩ (fun hHeld => ?_); refine with_tabW federationlaw2_KeyRowOrder.tab11 federationlaw2_KeyRowOrder.bits11 (fun HT_ HW_ => ?_)
                              generalize wc.drew = w51 at HO_13 HO_14 HB hx124_0 hx124_1 hx124_2 hx124_3 hx125_0 hx125_1 hx125_2 hx125_3 hHeld ⊢
                              refine pure_ (i := 0) (N := some 60) (v := ?_) (a' := ?_) #[true, false, false, false, false, false, false, false] rfl rfl (any_of HT_.out (by kernel_rfl)) (fun _ _ _ h => h) (Or.inl ⟨by rfl, ?_⟩) ?_ ?_
                              rotate_left
                              · intro w'
                                go_simp
                                with_reducible rfl
                              rotate_left
                              · simp only [Act.put, List.setIfInBounds_toArray, List.set_cons_zero, List.set_cons_succ, i64_w, i32_w]
                                rfl
                              refine pure_ (i := 1) (N := some 61) (v := ?_) (a' := ?_) #[true, true, false, false, false, false, false, false] rfl rfl (any_of HT_.out (by kernel_rfl)) (fun _ _ _ h => h) (Or.inl ⟨by rfl, ?_⟩) ?_ ?_
                              rotate_left
                              · intro w'
                                go_simp
                                with_reducible rfl
                              rotate_left
                              · simp only [Act.put, List.setIfInBounds_toArray, List.set_cons_zero, List.set_cons_succ, i64_w, i32_w]
                                rfl
                              refine pure_ (i := 3) (N := some 63) (v := ?_) (a' := ?_) #[true, true, false, true, false, false, false, false] rfl rfl (any_of HT_.out (by kernel_rfl)) (fun _ _ _ h => h) (Or.inl ⟨by rfl, ?_⟩) ?_ ?_
                              rotate_left
                              · intro w'
                                go_simp
                                with_reducible rfl
                              rotate_left
                              · simp only [Act.put, List.setIfInBounds_toArray, List.set_cons_zero, List.set_cons_succ, i64_w, i32_w]
                                rfl
                              refine pure_ (i := 4) (N := some 64) (v := ?_) (a' := ?_) #[true, true, false, true, true, false, false, false] rfl rfl (any_of HT_.out (by kernel_rfl)) (fun _ _ _ h => h) (Or.inl ⟨by rfl, ?_⟩) ?_ ?_
                              rotate_left
                              · intro w'
                                go_simp
                                with_reducible rfl
                              rotate_left
                              · simp only [Act.put, List.setIfInBounds_toArray, List.set_cons_zero, List.set_cons_succ, i64_w, i32_w]
                                rfl
                              refine take_ (i := 2) (N := some 62) (v := ?_) (a' := ?_) #[true, true, true, true, true, false, false, false] rfl rfl (take_ofW HT_.out HW_.out (by kernel_rfl)) (fun _ _ _ h => h) (Or.inl ⟨by rfl, ?_⟩) hHeld ?_ ?_
                              rotate_left
                              · rintro w' ⟨s0, s1, s2, s3, s4, s5, s6, s7⟩
                                go_simp
                                with_reducible rfl
                              rotate_left
                              · simp only [Act.put, List.setIfInBounds_toArray, List.set_cons_zero, List.set_cons_succ, i64_w, i32_w]
                                rfl
                              refine take_ (i := 5) (N := some 65) (v := ?_) (a' := ?_) #[true, true, true, true, true, true, false, false] rfl rfl (take_ofW HT_.out HW_.out (by kernel_rfl)) (fun _ _ _ h => h) (Or.inl ⟨by rfl, ?_⟩) hHeld ?_ ?_
                              rotate_left
                              · rintro w' ⟨s0, s1, s2, s3, s4, s5, s6, s7⟩
                                go_simp
                                with_reducible rfl
                              rotate_left
                              · simp only [Act.put, List.setIfInBounds_toArray, List.set_cons_zero, List.set_cons_succ, i64_w, i32_w]
                                rfl
                              refine one_ (i := 6) (N := some 66) #[true, true, true, true, true, true, true, false] rfl rfl (one_of HT_.out (by kernel_rfl)) (by decide) (fun K hK => ?_)
                              refine goes_ Try.func18 (by kernel_rfl) rfl #[.agg #[.int .i64 ((rd_T24 y107 0).f0), .int .i64 ((rd_T24 y107 0).f1), .int .i64 ((rd_T24 y107 0).f2), .string ((rd_T24 y107 0).f3)], .agg #[.int .i64 ((rd_T24 x14_32 0).f0), .int .i64 ((rd_T24 x14_32 0).f1), .int .i64 ((rd_T24 x14_32 0).f2), .string ((rd_T24 x14_32 0).f3)]] (by rfl) rfl rfl (by (try simp only [List.map_toArray, List.map_cons, List.map_nil]); first | done | rfl | (simp only [List.length_drop, List.length_take]; rfl)) ?_
                              with_reducible refine (federationref1_Order.calls kj32 ((rd_T24 y107 0).f0) ((rd_T24 y107 0).f1) ((rd_T24 y107 0).f2) ((rd_T24 y107 0).f3) ((rd_T24 x14_32 0).f0) ((rd_T24 x14_32 0).f1) ((rd_T24 x14_32 0).f2) ((rd_T24 x14_32 0).f3) t126 _ A43.out).mono ?_
                              rintro e w54 ⟨rfl, hb⟩
                              have HS0_ := (hb.cell (World.block_lt_of_cell? _ _ (hHeld.1))).trans (hHeld.1)
                              have HS1_ := (hb.cell (World.block_lt_of_cell? _ _ (hHeld.2.1))).trans (hHeld.2.1)
                              have HS2_ := (hb.cell (World.block_lt_of_cell? _ _ (hHeld.2.2.1))).trans (hHeld.2.2.1)
                              have HS3_ := (hb.cell (World.block_lt_of_cell? _ _ (hHeld.2.2.2.1))).trans (hHeld.2.2.2.1)
                              have HS4_ := (hb.cell (World.block_lt_of_cell? _ _ (hHeld.2.2.2.2.1))).trans (hHeld.2.2.2.2.1)
                              have HS5_ := (hb.cell (World.block_lt_of_cell? _ _ (hHeld.2.2.2.2.2.1))).trans (hHeld.2.2.2.2.2.1)
                              have HS6_ := (hb.cell (World.block_lt_of_cell? _ _ (hHeld.2.2.2.2.2.2.1))).trans (hHeld.2.2.2.2.2.2.1)
                              have HS7_ := (hb.cell (World.block_lt_of_cell? _ _ (hHeld.2.2.2.2.2.2.2))).trans (hHeld.2.2.2.2.2.2.2)
                              refine ⟨_, rfl, ?_⟩
                              have n0_ := Aside0.mk (Kd.R_below (by (with_reducible repeat (first | apply Kd.R_alloc | apply Kd.R_drewN | apply Kd.R_drew)); exact HO_13.out) hb)
                              have n1_ := Aside0.mk (Kd.R_below (by (with_reducible repeat (first | apply Kd.R_alloc | apply Kd.R_drewN | apply Kd.R_drew)); exact HO_14.out) hb)
                              have n2_ := Aside0.mk (below_step (by repeat (first | (with_reducible first | exact HB.out | apply below_alloc | apply pw_below_drewN | apply below_drew1) | exact HB.out)) hb)
                              clear HO_13
                              clear HO_14
                              clear HB
                              have HO_13 := n0_
                              have HO_14 := n1_
                              have HB := n2_
                              clear n0_ n1_ n2_
                              (try clear hb)
                              (try clear hb2)
                              (try clear hk)
                              (try clear hi)
                              refine hK.out _ _ ⟨HS0_, HS1_, HS2_, HS3_, HS4_, HS5_, HS6_, HS7_⟩ (fun hHeld => ?_)
                              clear hK K
                              refine norm_ (a' := ?_) ?_ ?_
                              rotate_left
                              · show Act.put _ (some 66) _ = _
                                simp only [Act.put, List.setIfInBounds_toArray, List.set_cons_zero, List.set_cons_succ, i64_w, i32_w]
                                rfl
                              refine pure_ (i := 7) (N := some 15) (v := ?_) (a' := ?_) #[true, true, true, true, true, true, true, true] rfl rfl (any_of HT_.out (by kernel_rfl)) (fun _ _ _ h => h) (Or.inl ⟨by rfl, ?_⟩) ?_ ?_
                              rotate_left
                              · intro w'
                                go_simp
                                with_reducible rfl
                              rotate_left
                              · simp only [Act.put, List.setIfInBounds_toArray, List.set_cons_zero, List.set_cons_succ, i64_w, i32_w]
                                rfl
                              refine done_ (done_of HT_.out (by kernel_rfl)) ?_
                              try go_wp2
                              have n0_ := Aside0.mk (Kd.R_drew HO_13.out)
                              have n1_ := Aside0.mk (Kd.R_drew HO_14.out)
                              have n2_ := Aside0.mk (below_drew1 HB.out)
                              clear HO_13
                              clear HO_14
                              clear HB
                              have HO_13 := n0_
                              have HO_14 := n1_
                              have HB := n2_
                              clear n0_ n1_ n2_
                              have p127 : 0 ≤ (1 : Int) := (by omega)
                              have q127 : 1 < (y107.length : Int) := of_decide_eq_true (by first | (with_reducible assumption) | assumption)
                              obtain ⟨ad127, e127, hx127_0, hx127_1, hx127_2, hx127_3⟩ := at_T24 (Kd.R_reads' HO_13.out).2.2 1 p127 q127
                              obtain rfl : ad124 = ad127 := (by injection e127)
                              (try simp only [show (1 : Int).toNat = 1 from rfl, Nat.reduceMul, Nat.reduceEqDiff, Go.Addr.add, ↓reduceIte] at hx127_0)
                              (try simp only [show (1 : Int).toNat = 1 from rfl, Nat.reduceMul, Nat.reduceEqDiff, Go.Addr.add, ↓reduceIte] at hx127_1)
                              (try simp only [show (1 : Int).toNat = 1 from rfl, Nat.reduceMul, Nat.reduceEqDiff, Go.Addr.add, ↓reduceIte] at hx127_2)
                              (try simp only [show (1 : Int).toNat = 1 from rfl, Nat.reduceMul, Nat.reduceEqDiff, Go.Addr.add, ↓reduceIte] at hx127_3)
                              have qi127 : (1 < y107.length) = True := eq_true (by omega)
                              (try rw [show ((1 : Int)).toNat = 1 from rfl] at hx127_0)
                              (try rw [show 1 * 4 = 4 from rfl] at hx127_0)
                              (try rw [show ((1 : Int)).toNat = 1 from rfl] at hx127_1)
                              (try rw [show 1 * 4 = 4 from rfl] at hx127_1)
                              (try rw [show ((1 : Int)).toNat = 1 from rfl] at hx127_2)
                              (try rw [show 1 * 4 = 4 from rfl] at hx127_2)
                              (try rw [show ((1 : Int)).toNat = 1 from rfl] at hx127_3)
                              (try rw [show 1 * 4 = 4 from rfl] at hx127_3)
                              replace p127 := eq_true p127
                              replace q127 := eq_true q127
                              have p128 : 0 ≤ (1 : Int) := (by omega)
                              have q128 : 1 < (x14_32.length : Int) := of_decide_eq_true (by first | (with_reducible assumption) | assumption)
                              obtain ⟨ad128, e128, hx128_0, hx128_1, hx128_2, hx128_3⟩ := at_T24 (Kd.R_reads' HO_14.out).2.2 1 p128 q128
                              obtain rfl : ad125 = ad128 := (by injection e128)
                              (try simp only [show (1 : Int).toNat = 1 from rfl, Nat.reduceMul, Nat.reduceEqDiff, Go.Addr.add, ↓reduceIte] at hx128_0)
                              (try simp only [show (1 : Int).toNat = 1 from rfl, Nat.reduceMul, Nat.reduceEqDiff, Go.Addr.add, ↓reduceIte] at hx128_1)
                              (try simp only [show (1 : Int).toNat = 1 from rfl, Nat.reduceMul, Nat.reduceEqDiff, Go.Addr.add, ↓reduceIte] at hx128_2)
                              (try simp only [show (1 : Int).toNat = 1 from rfl, Nat.reduceMul, Nat.reduceEqDiff, Go.Addr.add, ↓reduceIte] at hx128_3)
                              have qi128 : (1 < x14_32.length) = True := eq_true (by omega)
                              (try rw [show ((1 : Int)).toNat = 1 from rfl] at hx128_0)
                              (try rw [show 1 * 4 = 4 from rfl] at hx128_0)
                              (try rw [show ((1 : Int)).toNat = 1 from rfl] at hx128_1)
                              (try rw [show 1 * 4 = 4 from rfl] at hx128_1)
                              (try rw [show ((1 : Int)).toNat = 1 from rfl] at hx128_2)
                              (try rw [show 1 * 4 = 4 from rfl] at hx128_2)
                              (try rw [show ((1 : Int)).toNat = 1 from rfl] at hx128_3)
                              (try rw [show 1 * 4 = 4 from rfl] at hx128_3)
                              replace p128 := eq_true p128
                              replace q128 := eq_true q128
                              refine start_ (n := 8) (S := fun w' => w'.cell? ⟨ad124.block, ad124.off + 4, none⟩ = some (.int .i64 ((rd_T24 y107 1).f0)) ∧ w'.cell? ⟨ad124.block, ad124.off + 4 + 1, none⟩ = some (.int .i64 ((rd_T24 y107 1).f1)) ∧ w'.cell? ⟨ad124.block, ad124.off + 4 + 2, none⟩ = some (.int .i64 ((rd_T24 y107 1).f2)) ∧ w'.cell? ⟨ad124.block, ad124.off + 4 + 3, none⟩ = some (.string ((rd_T24 y107 1).f3)) ∧ w'.cell? ⟨ad125.block, ad125.off + 4, none⟩ = some (.int .i64 ((rd_T24 x14_32 1).f0)) ∧ w'.cell? ⟨ad125.block, ad125.off + 4 + 1, none⟩ = some (.int .i64 ((rd_T24 x14_32 1).f1)) ∧ w'.cell? ⟨ad125.block, ad125.off + 4 + 2, none⟩ = some (.int .i64 ((rd_T24 x14_32 1).f2)) ∧ w'.cell? ⟨ad125.block, ad125.off + 4 + 3, none⟩ = some (.string ((rd_T24 x14_32 1).f3))) (ds := []) #[false, false, false, false, false, false, false, false] (by kernel_rfl) rfl rfl ⟨hx127_0, hx127_1, hx127_2, hx127_3, hx128_0, hx128_1, hx128_2, hx128_3⟩ (fun hHeld => ?_); refine with_tabW federationlaw2_KeyRowOrder.tab13 federationlaw2_KeyRowOrder.bits13 (fun HT_ HW_ => ?_)
                              generalize w54.drew = w55 at HO_13 HO_14 HB hx127_0 hx127_1 hx127_2 hx127_3 hx128_0 hx128_1 hx128_2 hx128_3 hHeld ⊢
                              refine pure_ (i := 0) (N := some 69) (v := ?_) (a' := ?_) #[true, false, false, false, false, false, false, false] rfl rfl (any_of HT_.out (by kernel_rfl)) (fun _ _ _ h => h) (Or.inl ⟨by rfl, ?_⟩) ?_ ?_
                              rotate_left
                              · intro w'
                                go_simp
                                with_reducible rfl
                              rotate_left
                              · simp only [Act.put, List.setIfInBounds_toArray, List.set_cons_zero, List.set_cons_succ, i64_w, i32_w]
                                rfl
                              refine pure_ (i := 1) (N := some 70) (v := ?_) (a' := ?_) #[true, true, false, false, false, false, false, false] rfl rfl (any_of HT_.out (by kernel_rfl)) (fun _ _ _ h => h) (Or.inl ⟨by rfl, ?_⟩) ?_ ?_
                              rotate_left
                              · intro w'
                                go_simp
                                with_reducible rfl
                              rotate_left
                              · simp only [Act.put, List.setIfInBounds_toArray, List.set_cons_zero, List.set_cons_succ, i64_w, i32_w]
                                rfl
                              refine pure_ (i := 3) (N := some 72) (v := ?_) (a' := ?_) #[true, true, false, true, false, false, false, false] rfl rfl (any_of HT_.out (by kernel_rfl)) (fun _ _ _ h => h) (Or.inl ⟨by rfl, ?_⟩) ?_ ?_
                              rotate_left
                              · intro w'
                                go_simp
                                with_reducible rfl
                              rotate_left
                              · simp only [Act.put, List.setIfInBounds_toArray, List.set_cons_zero, List.set_cons_succ, i64_w, i32_w]
                                rfl
                              refine pure_ (i := 4) (N := some 73) (v := ?_) (a' := ?_) #[true, true, false, true, true, false, false, false] rfl rfl (any_of HT_.out (by kernel_rfl)) (fun _ _ _ h => h) (Or.inl ⟨by rfl, ?_⟩) ?_ ?_
                              rotate_left
                              · intro w'
                                go_simp
                                with_reducible rfl
                              rotate_left
                              · simp only [Act.put, List.setIfInBounds_toArray, List.set_cons_zero, List.set_cons_succ, i64_w, i32_w]
                                rfl
                              refine take_ (i := 2) (N := some 71) (v := ?_) (a' := ?_) #[true, true, true, true, true, false, false, false] rfl rfl (take_ofW HT_.out HW_.out (by kernel_rfl)) (fun _ _ _ h => h) (Or.inl ⟨by rfl, ?_⟩) hHeld ?_ ?_
                              rotate_left
                              · rintro w' ⟨s0, s1, s2, s3, s4, s5, s6, s7⟩
                                go_simp
                                with_reducible rfl
                              rotate_left
                              · simp only [Act.put, List.setIfInBounds_toArray, List.set_cons_zero, List.set_cons_succ, i64_w, i32_w]
                                rfl
                              refine take_ (i := 5) (N := some 74) (v := ?_) (a' := ?_) #[true, true, true, true, true, true, false, false] rfl rfl (take_ofW HT_.out HW_.out (by kernel_rfl)) (fun _ _ _ h => h) (Or.inl ⟨by rfl, ?_⟩) hHeld ?_ ?_
                              rotate_left
                              · rintro w' ⟨s0, s1, s2, s3, s4, s5, s6, s7⟩
                                go_simp
                                with_reducible rfl
                              rotate_left
                              · simp only [Act.put, List.setIfInBounds_toArray, List.set_cons_zero, List.set_cons_succ, i64_w, i32_w]
                                rfl
                              refine one_ (i := 6) (N := some 75) #[true, true, true, true, true, true, true, false] rfl rfl (one_of HT_.out (by kernel_rfl)) (by decide) (fun K hK => ?_)
                              refine goes_ Try.func18 (by kernel_rfl) rfl #[.agg #[.int .i64 ((rd_T24 y107 1).f0), .int .i64 ((rd_T24 y107 1).f1), .int .i64 ((rd_T24 y107 1).f2), .string ((rd_T24 y107 1).f3)], .agg #[.int .i64 ((rd_T24 x14_32 1).f0), .int .i64 ((rd_T24 x14_32 1).f1), .int .i64 ((rd_T24 x14_32 1).f2), .string ((rd_T24 x14_32 1).f3)]] (by rfl) rfl rfl (by (try simp only [List.map_toArray, List.map_cons, List.map_nil]); first | done | rfl | (simp only [List.length_drop, List.length_take]; rfl)) ?_
                              with_reducible refine (federationref1_Order.calls kj32 ((rd_T24 y107 1).f0) ((rd_T24 y107 1).f1) ((rd_T24 y107 1).f2) ((rd_T24 y107 1).f3) ((rd_T24 x14_32 1).f0) ((rd_T24 x14_32 1).f1) ((rd_T24 x14_32 1).f2) ((rd_T24 x14_32 1).f3) t129 _ A47.out).mono ?_
                              rintro e w56 ⟨rfl, hb⟩
                              have HS0_ := (hb.cell (World.block_lt_of_cell? _ _ (hHeld.1))).trans (hHeld.1)
                              have HS1_ := (hb.cell (World.block_lt_of_cell? _ _ (hHeld.2.1))).trans (hHeld.2.1)
                              have HS2_ := (hb.cell (World.block_lt_of_cell? _ _ (hHeld.2.2.1))).trans (hHeld.2.2.1)
                              have HS3_ := (hb.cell (World.block_lt_of_cell? _ _ (hHeld.2.2.2.1))).trans (hHeld.2.2.2.1)
                              have HS4_ := (hb.cell (World.block_lt_of_cell? _ _ (hHeld.2.2.2.2.1))).trans (hHeld.2.2.2.2.1)
                              have HS5_ := (hb.cell (World.block_lt_of_cell? _ _ (hHeld.2.2.2.2.2.1))).trans (hHeld.2.2.2.2.2.1)
                              have HS6_ := (hb.cell (World.block_lt_of_cell? _ _ (hHeld.2.2.2.2.2.2.1))).trans (hHeld.2.2.2.2.2.2.1)
                              have HS7_ := (hb.cell (World.block_lt_of_cell? _ _ (hHeld.2.2.2.2.2.2.2))).trans (hHeld.2.2.2.2.2.2.2)
                              refine ⟨_, rfl, ?_⟩
                              have n0_ := Aside0.mk (Kd.R_below (by (with_reducible repeat (first | apply Kd.R_alloc | apply Kd.R_drewN | apply Kd.R_drew)); exact HO_13.out) hb)
                              have n1_ := Aside0.mk (Kd.R_below (by (with_reducible repeat (first | apply Kd.R_alloc | apply Kd.R_drewN | apply Kd.R_drew)); exact HO_14.out) hb)
                              have n2_ := Aside0.mk (below_step (by repeat (first | (with_reducible first | exact HB.out | apply below_alloc | apply pw_below_drewN | apply below_drew1) | exact HB.out)) hb)
                              clear HO_13
                              clear HO_14
                              clear HB
                              have HO_13 := n0_
                              have HO_14 := n1_
                              have HB := n2_
                              clear n0_ n1_ n2_
                              (try clear hb)
                              (try clear hb2)
                              (try clear hk)
                              (try clear hi)
                              refine hK.out _ _ ⟨HS0_, HS1_, HS2_, HS3_, HS4_, HS5_, HS6_, HS7_⟩ (fun hHeld => ?_)
                              clear hK K
                              refine norm_ (a' := ?_) ?_ ?_
                              rotate_left
                              · show Act.put _ (some 75) _ = _
                                simp only [Act.put, List.setIfInBounds_toArray, List.set_cons_zero, List.set_cons_succ, i64_w, i32_w]
                                rfl
                              refine pure_ (i := 7) (N := some 15) (v := ?_) (a' := ?_) #[true, true, true, true, true, true, true, true] rfl rfl (any_of HT_.out (by kernel_rfl)) (fun _ _ _ h => h) (Or.inl ⟨by rfl, ?_⟩) ?_ ?_
                              rotate_left
                              · intro w'
                                go_simp
                                with_reducible rfl
                              rotate_left
                              · simp only [Act.put, List.setIfInBounds_toArray, List.set_cons_zero, List.set_cons_succ, i64_w, i32_w]
                                rfl
                              refine done_ (done_of HT_.out (by kernel_rfl)) ?_
                              try go_wp2_with (first | ((with_reducible refine gate_callee (f := 20) rfl ?_); refine goesL_ (some 77) rfl rfl Try.func20 (by kernel_rfl) rfl #[.slice (some ad124) y107.length co52] rfl (by (try simp only [List.map_toArray, List.map_cons, List.map_nil]); first | done | rfl | (simp only [List.length_drop, List.length_take]; rfl)) ?_; (with_reducible refine (key_Row.calls kj32 _ _ y107 t130 _ ?side1 ?side2 A48.out).mono ?_); (case side1 => repeat (first | exact (Kd.R_reads' HO_13.out).2.2 | (with_reducible refine Kd.C_alloc ?_ _) | (with_reducible refine Kd.C_drewN ?_ _) | (with_reducible refine Kd.C_drew ?_))); (case side2 => exact (Kd.R_reads' HO_13.out).2.1); rintro e w57 ⟨rfl, hb⟩; refine ⟨_, rfl, ?_⟩; have n0_ := Aside0.mk (Kd.R_below (by (with_reducible repeat (first | apply Kd.R_alloc | apply Kd.R_drewN | apply Kd.R_drew)); exact HO_13.out) hb); have n1_ := Aside0.mk (Kd.R_below (by (with_reducible repeat (first | apply Kd.R_alloc | apply Kd.R_drewN | apply Kd.R_drew)); exact HO_14.out) hb); have n2_ := Aside0.mk (below_step (by repeat (first | (with_reducible first | exact HB.out | apply below_alloc | apply pw_below_drewN | apply below_drew1) | exact HB.out)) hb); clear HO_13; clear HO_14; clear HB; have HO_13 := n0_; have HO_14 := n1_; have HB := n2_; clear n0_ n1_ n2_; (try clear hb); (try clear hb2); (try clear hk); (try clear hi)) | ((with_reducible refine gate_callee (f := 20) rfl ?_); refine goesL_ (some 79) rfl rfl Try.func20 (by kernel_rfl) rfl #[.slice (some ad125) x14_32.length co53] rfl (by (try simp only [List.map_toArray, List.map_cons, List.map_nil]); first | done | rfl | (simp only [List.length_drop, List.length_take]; rfl)) ?_; (with_reducible refine (key_Row.calls kj32 _ _ x14_32 t131 _ ?side1 ?side2 A49.out).mono ?_); (case side1 => repeat (first | exact (Kd.R_reads' HO_14.out).2.2 | (with_reducible refine Kd.C_alloc ?_ _) | (with_reducible refine Kd.C_drewN ?_ _) | (with_reducible refine Kd.C_drew ?_))); (case side2 => exact (Kd.R_reads' HO_14.out).2.1); rintro e w58 ⟨rfl, hb⟩; refine ⟨_, rfl, ?_⟩; have n0_ := Aside0.mk (Kd.R_below (by (with_reducible repeat (first | apply Kd.R_alloc | apply Kd.R_drewN | apply Kd.R_drew)); exact HO_13.out) hb); have n1_ := Aside0.mk (Kd.R_below (by (with_reducible repeat (first | apply Kd.R_alloc | apply Kd.R_drewN | apply Kd.R_drew)); exact HO_14.out) hb); have n2_ := Aside0.mk (below_step (by repeat (first | (with_reducible first | exact HB.out | apply below_alloc | apply pw_below_drewN | apply below_drew1) | exact HB.out)) hb); clear HO_13; clear HO_14; clear HB; have HO_13 := n0_; have HO_14 := n1_; have HB := n2_; clear n0_ n1_ n2_; (try clear hb); (try clear hb2); (try clear hk); (try clear hi)))
                              go_ret
                              exact ⟨by first | rfl | (simp [errW_none, errW_some] <;> rfl) | (simp [*, errW_none, errW_some] <;> rfl), by repeat (first | (with_reducible first | exact HB.out | apply below_alloc | apply pw_below_drewN | apply below_drew1) | exact HB.out)⟩
                            · rw [if_neg c50] at H
                              exact absurd H (by simp)
                          · rw [if_neg c46] at H
                            exact absurd H (by simp)
                        · rw [if_neg c45] at H
                          exact absurd H (by simp)
                      · rw [if_neg c44] at H
                        have c44b0 : (t126 == 0) = false := beq_eq_false_iff_ne.mpr c44
                        have c44b1 : (t126 != 0) = true := bne_iff_ne.mpr c44
                        replace H := Option.bind_eq_some_iff.mp H
                        obtain ⟨t132, A590, H⟩ := H
                        replace H : ((key_Row.f kj32 x14_32).bind fun t133 => (if ((Op.bytesLess t132.toList t133.toList) == (decide (t126 < 0))) = true then (some ((t132.toList == t133.toList) == (t126 == 0))) else (none))) = some r := H
                        have A59 := Aside0.mk A590
                        clear A590
                        replace H := Option.bind_eq_some_iff.mp H
                        obtain ⟨t133, A600, H⟩ := H
                        replace H : (if ((Op.bytesLess t132.toList t133.toList) == (decide (t126 < 0))) = true then (some ((t132.toList == t133.toList) == (t126 == 0))) else (none)) = some r := H
                        have A60 := Aside0.mk A600
                        clear A600
                        by_cases c61 : ((Op.bytesLess t132.toList t133.toList) == (decide (t126 < 0))) = true
                        · rw [if_pos c61] at H
                          have c61b0 : ((Op.bytesLess t132.toList t133.toList) == (decide (t126 < 0))) = true := c61
                          (try (have c61b1 : decide ((Op.bytesLess t132.toList t133.toList) = (decide (t126 < 0))) = true := by simpa using c61))
                          (try (have c61b2 : ((Op.bytesLess t132.toList t133.toList) == (decide (t126 < 0))) = true := by simpa using c61))
                          clear c61
                          obtain rfl := Option.some.inj H
                          try go_wp2
                          have n0_ := Aside0.mk (Kd.R_drew HO_13.out)
                          have n1_ := Aside0.mk (Kd.R_drew HO_14.out)
                          have n2_ := Aside0.mk (below_drew1 HB.out)
                          clear HO_13
                          clear HO_14
                          clear HB
                          have HO_13 := n0_
                          have HO_14 := n1_
                          have HB := n2_
                          clear n0_ n1_ n2_
                          obtain ⟨Ao63, co63, eo63⟩ := Kd.R_slice HO_13.out
                          (first | subst eo63 | (injection eo63 with f1_ f2_ f3_; have f4_ := f1_.symm; have f5_ := f3_.symm; clear f1_ f2_ f3_; subst f4_; subst f5_))
                          have p124 : 0 ≤ (0 : Int) := (by omega)
                          have q124 : 0 < (y107.length : Int) := of_decide_eq_true (by first | (with_reducible assumption) | assumption)
                          obtain ⟨ad124, e124, hx124_0, hx124_1, hx124_2, hx124_3⟩ := at_T24 (Kd.R_reads' HO_13.out).2.2 0 p124 q124
                          cases e124
                          have qi124 : (0 < y107.length) = True := eq_true (by omega)
                          (try rw [show ((0 : Int)).toNat = 0 from rfl] at hx124_0)
                          (try rw [show 0 * 4 = 0 from rfl] at hx124_0)
                          (try rw [Addr.add_zero'] at hx124_0)
                          (try rw [show ((0 : Int)).toNat = 0 from rfl] at hx124_1)
                          (try rw [show 0 * 4 = 0 from rfl] at hx124_1)
                          (try rw [Addr.add_zero'] at hx124_1)
                          (try rw [show ((0 : Int)).toNat = 0 from rfl] at hx124_2)
                          (try rw [show 0 * 4 = 0 from rfl] at hx124_2)
                          (try rw [Addr.add_zero'] at hx124_2)
                          (try rw [show ((0 : Int)).toNat = 0 from rfl] at hx124_3)
                          (try rw [show 0 * 4 = 0 from rfl] at hx124_3)
                          (try rw [Addr.add_zero'] at hx124_3)
                          replace p124 := eq_true p124
                          replace q124 := eq_true q124
                          obtain ⟨Ao64, co64, eo64⟩ := Kd.R_slice HO_14.out
                          (first | subst eo64 | (injection eo64 with f1_ f2_ f3_; have f4_ := f1_.symm; have f5_ := f3_.symm; clear f1_ f2_ f3_; subst f4_; subst f5_))
                          have p125 : 0 ≤ (0 : Int) := (by omega)
                          have q125 : 0 < (x14_32.length : Int) := of_decide_eq_true (by first | (with_reducible assumption) | assumption)
                          obtain ⟨ad125, e125, hx125_0, hx125_1, hx125_2, hx125_3⟩ := at_T24 (Kd.R_reads' HO_14.out).2.2 0 p125 q125
                          cases e125
                          have qi125 : (0 < x14_32.length) = True := eq_true (by omega)
                          (try rw [show ((0 : Int)).toNat = 0 from rfl] at hx125_0)
                          (try rw [show 0 * 4 = 0 from rfl] at hx125_0)
                          (try rw [Addr.add_zero'] at hx125_0)
                          (try rw [show ((0 : Int)).toNat = 0 from rfl] at hx125_1)
                          (try rw [show 0 * 4 = 0 from rfl] at hx125_1)
                          (try rw [Addr.add_zero'] at hx125_1)
                          (try rw [show ((0 : Int)).toNat = 0 from rfl] at hx125_2)
                          (try rw [show 0 * 4 = 0 from rfl] at hx125_2)
                          (try rw [Addr.add_zero'] at hx125_2)
                          (try rw [show ((0 : Int)).toNat = 0 from rfl] at hx125_3)
                          (try rw [show 0 * 4 = 0 from rfl] at hx125_3)
                          (try rw [Addr.add_zero'] at hx125_3)
                          replace p125 := eq_true p125
                          replace q125 := eq_true q125
                          refine start_ (n := 8) (S := fun w' => w'.cell? ad124 = some (.int .i64 ((rd_T24 y107 0).f0)) ∧ w'.cell? ⟨ad124.block, ad124.off + 1, none⟩ = some (.int .i64 ((rd_T24 y107 0).f1)) ∧ w'.cell? ⟨ad124.block, ad124.off + 2, none⟩ = some (.int .i64 ((rd_T24 y107 0).f2)) ∧ w'.cell? ⟨ad124.block, ad124.off + 3, none⟩ = some (.string ((rd_T24 y107 0).f3)) ∧ w'.cell? ad125 = some (.int .i64 ((rd_T24 x14_32 0).f0)) ∧ w'.cell? ⟨ad125.block, ad125.off + 1, none⟩ = some (.int .i64 ((rd_T24 x14_32 0).f1)) ∧ w'.cell? ⟨ad125.block, ad125.off + 2, none⟩ = some (.int .i64 ((rd_T24 x14_32 0).f2)) ∧ w'.cell? ⟨ad125.block, ad125.off + 3, none⟩ = some (.string ((rd_T24 x14_32 0).f3))) (ds := []) #[false, false, false, false, false, false, false, false] (by kernel_rfl) rfl rfl ⟨hx124_0, hx124_1, hx124_2, hx124_3, hx125_0, hx125_1, hx125_2, hx125_3⟩ (fun hHeld => ?_); refine with_tabW federationlaw2_KeyRowOrder.tab11 federationlaw2_KeyRowOrder.bits11 (fun HT_ HW_ => ?_)
                          generalize wc.drew = w62 at HO_13 HO_14 HB hx124_0 hx124_1 hx124_2 hx124_3 hx125_0 hx125_1 hx125_2 hx125_3 hHeld ⊢
                          refine pure_ (i := 0) (N := some 60) (v := ?_) (a' := ?_) #[true, false, false, false, false, false, false, false] rfl rfl (any_of HT_.out (by kernel_rfl)) (fun _ _ _ h => h) (Or.inl ⟨by rfl, ?_⟩) ?_ ?_
                          rotate_left
                          · intro w'
                            go_simp
                            with_reducible rfl
                          rotate_left
                          · simp only [Act.put, List.setIfInBounds_toArray, List.set_cons_zero, List.set_cons_succ, i64_w, i32_w]
                            rfl
                          refine pure_ (i := 1) (N := some 61) (v := ?_) (a' := ?_) #[true, true, false, false, false, false, false, false] rfl rfl (any_of HT_.out (by kernel_rfl)) (fun _ _ _ h => h) (Or.inl ⟨by rfl, ?_⟩) ?_ ?_
                          rotate_left
                          · intro w'
                            go_simp
                            with_reducible rfl
                          rotate_left
                          · simp only [Act.put, List.setIfInBounds_toArray, List.set_cons_zero, List.set_cons_succ, i64_w, i32_w]
                            rfl
                          refine pure_ (i := 3) (N := some 63) (v := ?_) (a' := ?_) #[true, true, false, true, false, false, false, false] rfl rfl (any_of HT_.out (by kernel_rfl)) (fun _ _ _ h => h) (Or.inl ⟨by rfl, ?_⟩) ?_ ?_
                          rotate_left
                          · intro w'
                            go_simp
                            with_reducible rfl
                          rotate_left
                          · simp only [Act.put, List.setIfInBounds_toArray, List.set_cons_zero, List.set_cons_succ, i64_w, i32_w]
                            rfl
                          refine pure_ (i := 4) (N := some 64) (v := ?_) (a' := ?_) #[true, true, false, true, true, false, false, false] rfl rfl (any_of HT_.out (by kernel_rfl)) (fun _ _ _ h => h) (Or.inl ⟨by rfl, ?_⟩) ?_ ?_
                          rotate_left
                          · intro w'
                            go_simp
                            with_reducible rfl
                          rotate_left
                          · simp only [Act.put, List.setIfInBounds_toArray, List.set_cons_zero, List.set_cons_succ, i64_w, i32_w]
                            rfl
                          refine take_ (i := 2) (N := some 62) (v := ?_) (a' := ?_) #[true, true, true, true, true, false, false, false] rfl rfl (take_ofW HT_.out HW_.out (by kernel_rfl)) (fun _ _ _ h => h) (Or.inl ⟨by rfl, ?_⟩) hHeld ?_ ?_
                          rotate_left
                          · rintro w' ⟨s0, s1, s2, s3, s4, s5, s6, s7⟩
                            go_simp
                            with_reducible rfl
                          rotate_left
                          · simp only [Act.put, List.setIfInBounds_toArray, List.set_cons_zero, List.set_cons_succ, i64_w, i32_w]
                            rfl
                          refine take_ (i := 5) (N := some 65) (v := ?_) (a' := ?_) #[true, true, true, true, true, true, false, false] rfl rfl (take_ofW HT_.out HW_.out (by kernel_rfl)) (fun _ _ _ h => h) (Or.inl ⟨by rfl, ?_⟩) hHeld ?_ ?_
                          rotate_left
                          · rintro w' ⟨s0, s1, s2, s3, s4, s5, s6, s7⟩
                            go_simp
                            with_reducible rfl
                          rotate_left
                          · simp only [Act.put, List.setIfInBounds_toArray, List.set_cons_zero, List.set_cons_succ, i64_w, i32_w]
                            rfl
                          refine one_ (i := 6) (N := some 66) #[true, true, true, true, true, true, true, false] rfl rfl (one_of HT_.out (by kernel_rfl)) (by decide) (fun K hK => ?_)
                          refine goes_ Try.func18 (by kernel_rfl) rfl #[.agg #[.int .i64 ((rd_T24 y107 0).f0), .int .i64 ((rd_T24 y107 0).f1), .int .i64 ((rd_T24 y107 0).f2), .string ((rd_T24 y107 0).f3)], .agg #[.int .i64 ((rd_T24 x14_32 0).f0), .int .i64 ((rd_T24 x14_32 0).f1), .int .i64 ((rd_T24 x14_32 0).f2), .string ((rd_T24 x14_32 0).f3)]] (by rfl) rfl rfl (by (try simp only [List.map_toArray, List.map_cons, List.map_nil]); first | done | rfl | (simp only [List.length_drop, List.length_take]; rfl)) ?_
                          with_reducible refine (federationref1_Order.calls kj32 ((rd_T24 y107 0).f0) ((rd_T24 y107 0).f1) ((rd_T24 y107 0).f2) ((rd_T24 y107 0).f3) ((rd_T24 x14_32 0).f0) ((rd_T24 x14_32 0).f1) ((rd_T24 x14_32 0).f2) ((rd_T24 x14_32 0).f3) t126 _ A43.out).mono ?_
                          rintro e w65 ⟨rfl, hb⟩
                          have HS0_ := (hb.cell (World.block_lt_of_cell? _ _ (hHeld.1))).trans (hHeld.1)
                          have HS1_ := (hb.cell (World.block_lt_of_cell? _ _ (hHeld.2.1))).trans (hHeld.2.1)
                          have HS2_ := (hb.cell (World.block_lt_of_cell? _ _ (hHeld.2.2.1))).trans (hHeld.2.2.1)
                          have HS3_ := (hb.cell (World.block_lt_of_cell? _ _ (hHeld.2.2.2.1))).trans (hHeld.2.2.2.1)
                          have HS4_ := (hb.cell (World.block_lt_of_cell? _ _ (hHeld.2.2.2.2.1))).trans (hHeld.2.2.2.2.1)
                          have HS5_ := (hb.cell (World.block_lt_of_cell? _ _ (hHeld.2.2.2.2.2.1))).trans (hHeld.2.2.2.2.2.1)
                          have HS6_ := (hb.cell (World.block_lt_of_cell? _ _ (hHeld.2.2.2.2.2.2.1))).trans (hHeld.2.2.2.2.2.2.1)
                          have HS7_ := (hb.cell (World.block_lt_of_cell? _ _ (hHeld.2.2.2.2.2.2.2))).trans (hHeld.2.2.2.2.2.2.2)
                          refine ⟨_, rfl, ?_⟩
                          have n0_ := Aside0.mk (Kd.R_below (by (with_reducible repeat (first | apply Kd.R_alloc | apply Kd.R_drewN | apply Kd.R_drew)); exact HO_13.out) hb)
                          have n1_ := Aside0.mk (Kd.R_below (by (with_reducible repeat (first | apply Kd.R_alloc | apply Kd.R_drewN | apply Kd.R_drew)); exact HO_14.out) hb)
                          have n2_ := Aside0.mk (below_step (by repeat (first | (with_reducible first | exact HB.out | apply below_alloc | apply pw_below_drewN | apply below_drew1) | exact HB.out)) hb)
                          clear HO_13
                          clear HO_14
                          clear HB
                          have HO_13 := n0_
                          have HO_14 := n1_
                          have HB := n2_
                          clear n0_ n1_ n2_
                          (try clear hb)
                          (try clear hb2)
                          (try clear hk)
                          (try clear hi)
                          refine hK.out _ _ ⟨HS0_, HS1_, HS2_, HS3_, HS4_, HS5_, HS6_, HS7_⟩ (fun hHeld => ?_)
                          clear hK K
                          refine norm_ (a' := ?_) ?_ ?_
                          rotate_left
                          · show Act.put _ (some 66) _ = _
                            simp only [Act.put, List.setIfInBounds_toArray, List.set_cons_zero, List.set_cons_succ, i64_w, i32_w]
                            rfl
                          refine pure_ (i := 7) (N := some 15) (v := ?_) (a' := ?_) #[true, true, true, true, true, true, true, true] rfl rfl (any_of HT_.out (by kernel_rfl)) (fun _ _ _ h => h) (Or.inl ⟨by rfl, ?_⟩) ?_ ?_
                          rotate_left
                          · intro w'
                            go_simp
                            with_reducible rfl
                          rotate_left
                          · simp only [Act.put, List.setIfInBounds_toArray, List.set_cons_zero, List.set_cons_succ, i64_w, i32_w]
                            rfl
                          refine done_ (done_of HT_.out (by kernel_rfl)) ?_
                          try go_wp2_with (first | ((with_reducible refine gate_callee (f := 20) rfl ?_); refine goesL_ (some 77) rfl rfl Try.func20 (by kernel_rfl) rfl #[.slice (some ad124) y107.length co63] rfl (by (try simp only [List.map_toArray, List.map_cons, List.map_nil]); first | done | rfl | (simp only [List.length_drop, List.length_take]; rfl)) ?_; (with_reducible refine (key_Row.calls kj32 _ _ y107 t132 _ ?side1 ?side2 A59.out).mono ?_); (case side1 => repeat (first | exact (Kd.R_reads' HO_13.out).2.2 | (with_reducible refine Kd.C_alloc ?_ _) | (with_reducible refine Kd.C_drewN ?_ _) | (with_reducible refine Kd.C_drew ?_))); (case side2 => exact (Kd.R_reads' HO_13.out).2.1); rintro e w66 ⟨rfl, hb⟩; refine ⟨_, rfl, ?_⟩; have n0_ := Aside0.mk (Kd.R_below (by (with_reducible repeat (first | apply Kd.R_alloc | apply Kd.R_drewN | apply Kd.R_drew)); exact HO_13.out) hb); have n1_ := Aside0.mk (Kd.R_below (by (with_reducible repeat (first | apply Kd.R_alloc | apply Kd.R_drewN | apply Kd.R_drew)); exact HO_14.out) hb); have n2_ := Aside0.mk (below_step (by repeat (first | (with_reducible first | exact HB.out | apply below_alloc | apply pw_below_drewN | apply below_drew1) | exact HB.out)) hb); clear HO_13; clear HO_14; clear HB; have HO_13 := n0_; have HO_14 := n1_; have HB := n2_; clear n0_ n1_ n2_; (try clear hb); (try clear hb2); (try clear hk); (try clear hi)) | ((with_reducible refine gate_callee (f := 20) rfl ?_); refine goesL_ (some 79) rfl rfl Try.func20 (by kernel_rfl) rfl #[.slice (some ad125) x14_32.length co64] rfl (by (try simp only [List.map_toArray, List.map_cons, List.map_nil]); first | done | rfl | (simp only [List.length_drop, List.length_take]; rfl)) ?_; (with_reducible refine (key_Row.calls kj32 _ _ x14_32 t133 _ ?side1 ?side2 A60.out).mono ?_); (case side1 => repeat (first | exact (Kd.R_reads' HO_14.out).2.2 | (with_reducible refine Kd.C_alloc ?_ _) | (with_reducible refine Kd.C_drewN ?_ _) | (with_reducible refine Kd.C_drew ?_))); (case side2 => exact (Kd.R_reads' HO_14.out).2.1); rintro e w67 ⟨rfl, hb⟩; refine ⟨_, rfl, ?_⟩; have n0_ := Aside0.mk (Kd.R_below (by (with_reducible repeat (first | apply Kd.R_alloc | apply Kd.R_drewN | apply Kd.R_drew)); exact HO_13.out) hb); have n1_ := Aside0.mk (Kd.R_below (by (with_reducible repeat (first | apply Kd.R_alloc | apply Kd.R_drewN | apply Kd.R_drew)); exact HO_14.out) hb); have n2_ := Aside0.mk (below_step (by repeat (first | (with_reducible first | exact HB.out | apply below_alloc | apply pw_below_drewN | apply below_drew1) | exact HB.out)) hb); clear HO_13; clear HO_14; clear HB; have HO_13 := n0_; have HO_14 := n1_; have HB := n2_; clear n0_ n1_ n2_; (try clear hb); (try clear hb2); (try clear hk); (try clear hi)))
                          go_ret
                          exact ⟨by first | rfl | (simp [errW_none, errW_some] <;> rfl) | (simp [*, errW_none, errW_some] <;> rfl), by repeat (first | (with_reducible first | exact HB.out | apply below_alloc | apply pw_below_drewN | apply below_drew1) | exact HB.out)⟩
                        · rw [if_neg c61] at H
                          exact absurd H (by simp)
                    · rw [if_neg c42] at H
                      exact absurd H (by simp)
                  · rw [if_neg c41] at H
                    exact absurd H (by simp)
  · replace c8 := Bool.eq_false_iff.mpr c8
    subst c8
    have H1 : (none) = some r := by rw [if_neg (show ¬ (false = true) by decide)] at H; exact H
    clear H
    have H := H1
    clear H1
    exact absurd H (by simp)
def federationlaw2_KeyRowOrder.Pure : Prop := ∀ (a0 : Int) (a1 : Int) (a2 : Int) (a3 : Int) (a4 : ByteArray) (a5 : ByteArray), (Lit.int .i64 a0).wf = true → (Lit.int .i64 a1).wf = true → (Lit.int .i64 a2).wf = true → (Lit.int .i64 a3).wf = true → a4.size ≤ 140737488351232 → a5.size ≤ 140737488351232 → ∃ k, federationlaw2_KeyRowOrder.f k a0 a1 a2 a3 a4 a5 = some true
theorem federationlaw2_KeyRowOrder.walk (P : federationlaw2_KeyRowOrder.Pure) (a0 : Int) (a1 : Int) (a2 : Int) (a3 : Int) (a4 : ByteArray) (a5 : ByteArray) (w : World) (w0 : (Lit.int .i64 a0).wf = true) (w1 : (Lit.int .i64 a1).wf = true) (w2 : (Lit.int .i64 a2).wf = true) (w3 : (Lit.int .i64 a3).wf = true) (w4 : a4.size ≤ 140737488351232) (w5 : a5.size ≤ 140737488351232) :
    Calls Try.prog 8 #[.int .i64 a0, .int .i64 a1, .int .i64 a2, .int .i64 a3, .string a4, .string a5] w fun e w' => e = .returned (.bool true) ∧ Below w.heap.size w w' := by
  obtain ⟨k, h⟩ := P a0 a1 a2 a3 a4 a5 w0 w1 w2 w3 w4 w5
  refine (federationlaw2_KeyRowOrder.calls k a0 a1 a2 a3 a4 a5 true w h).mono ?_
  rintro e w' ⟨rfl, hd⟩
  exact ⟨rfl, hd⟩
end Go.Proofs.Ytjacflmgbmfhcaa.K
