-- Written by drive.py and pack.py (programs of this proof's own) through the kit's printer; not trusted: Lean checks it.
import Derived.Test.YtllkhdhanheieaaCValRight1
import Derived.Test.YtllkhdhanheieaaCValRight10
import Derived.Test.YtllkhdhanheieaaCValRight11
import Derived.Test.YtllkhdhanheieaaCValRight2
import Derived.Test.YtllkhdhanheieaaCValRight3
import Derived.Test.YtllkhdhanheieaaCValRight12
namespace Go.Proofs.Ytllkhdhanheieaa.V
open Go.RowKit Go.Proofs.YtllkhdhanheieaaW.PrintWords Go.Proofs.YtllkhdhanheieaaW.PrintLast Go.Proofs.YtllkhdhanheieaaW.PrintMore
attribute [local go_sem] max2_int min2_int max_two min_two max_three min_three max_four min_four
attribute [local go_sem high] own_gtr own_leq own_geq own_cell_set Option.map_some fld23_1
set_option linter.unusedVariables false
set_option linter.unusedSimpArgs false
attribute [local go_sem high] eqA23
mutual
def federationlaw1_ValRight.j0 : Nat → Int → Int → ByteArray → Int → Int → Bool → Int → Int → Int → ByteArray → Option (Bool)
  | 0, _, _, _, _, _, _, _, _, _, _ => none
  | k + 1, x1, x2, x3, x4, x5, x24, x102000, x102001, x102002, x102003 => if x24 = true then (some true) else ((federationlaw1_Make.f k x1 x2 x3).bind fun bt103 => ((val_Right.f k bt103.1 bt103.2.1 bt103.2.2.1 bt103.2.2.2).bind fun t108 => (if t108 = true then ((val_Norm.f k bt103.1 bt103.2.1 bt103.2.2.1 bt103.2.2.2).bind fun bt109 => (federationlaw1_ValRight.j1 k x3 x4 x5 (!(bt109.1 == bt103.1) || (!(bt109.2.1 == bt103.2.1) || (!(bt109.2.2.1 == bt103.2.2.1) || (!(bt109.2.2.2.toList == bt103.2.2.2.toList))))) x102000 x102001 x102002 x102003 bt103.1 bt103.2.1 bt103.2.2.1 bt103.2.2.2)) else (federationlaw1_ValRight.j1 k x3 x4 x5 true x102000 x102001 x102002 x102003 bt103.1 bt103.2.1 bt103.2.2.1 bt103.2.2.2))))
def federationlaw1_ValRight.j1 : Nat → ByteArray → Int → Int → Bool → Int → Int → Int → ByteArray → Int → Int → Int → ByteArray → Option (Bool)
  | 0, _, _, _, _, _, _, _, _, _, _, _, _ => none
  | k + 1, x3, x4, x5, x37, x102000, x102001, x102002, x102003, x108000, x108001, x108002, x108003 => if x37 = true then (none) else ((federationlaw1_within.f x4 4).bind fun t113 => (if t113 = 0 then ((some (([(-1), 0, 1, 2, 3, 4, 5, 6, x5] : List Int) : List Int)).bind fun y114 => ((federationlaw1_within.f x5 9).bind fun t117 => (if 0 ≤ t117 then (if t117 < (y114.length : Int) then (federationlaw1_ValRight.j2 k x102000 x102001 x102002 x102003 (rd y114 t117) x108001 x108002 x108003) else (none)) else (none)))) else (if t113 = 1 then ((some (([0, 1, 2, (-1), 10, 999999999999999, 1000000000000000, (-1000000000000000), x5] : List Int) : List Int)).bind fun y119 => ((federationlaw1_within.f x5 9).bind fun t122 => (if 0 ≤ t122 then (if t122 < (y119.length : Int) then (federationlaw1_ValRight.j2 k x102000 x102001 x102002 x102003 x108000 (rd y119 t122) x108002 x108003) else (none)) else (none)))) else (if t113 = 2 then ((some (([(-1), 0, 1, 6, 7, x5] : List Int) : List Int)).bind fun y124 => ((federationlaw1_within.f x5 6).bind fun t127 => (if 0 ≤ t127 then (if t127 < (y124.length : Int) then (federationlaw1_ValRight.j2 k x102000 x102001 x102002 x102003 x108000 x108001 (rd y124 t127) x108003) else (none)) else (none)))) else (if t113 = 3 then (if x108003.size + x3.size ≤ 9223372036854775807 then (federationlaw1_ValRight.j2 k x102000 x102001 x102002 x102003 x108000 x108001 x108002 (x108003 ++ x3)) else (none)) else (federationlaw1_ValRight.j2 k x102000 x102001 x102002 x102003 x108000 x108001 x108002 x108003))))))
def federationlaw1_ValRight.j2 : Nat → Int → Int → Int → ByteArray → Int → Int → Int → ByteArray → Option (Bool)
  | 0, _, _, _, _, _, _, _, _ => none
  | k + 1, x102000, x102001, x102002, x102003, x108000, x108001, x108002, x108003 => (val_Right.f k x108000 x108001 x108002 x108003).bind fun t129 => ((federationref1_Right.f k x108000 x108001 x108002 x108003).bind fun t130 => (if (t129 == t130) = true then ((val_Right.f k x102000 x102001 x102002 x102003).bind fun t131 => ((federationref1_Right.f k x102000 x102001 x102002 x102003).bind fun t132 => (if (t131 == t132) = true then ((val_Norm.f k x108000 x108001 x108002 x108003).bind fun bt133 => ((federationref1_Norm.f k x108000 x108001 x108002 x108003).bind fun bt137 => (if (bt133.1 == bt137.1 && (bt133.2.1 == bt137.2.1 && (bt133.2.2.1 == bt137.2.2.1 && (bt133.2.2.2.toList == bt137.2.2.2.toList)))) = true then ((val_Norm.f k x102000 x102001 x102002 x102003).bind fun bt141 => ((federationref1_Norm.f k x102000 x102001 x102002 x102003).bind fun bt145 => (some (bt141.1 == bt145.1 && (bt141.2.1 == bt145.2.1 && (bt141.2.2.1 == bt145.2.2.1 && (bt141.2.2.2.toList == bt145.2.2.2.toList))))))) else (none)))) else (none)))) else (none)))
end
def federationlaw1_ValRight.f (k : Nat) (a0_0 : Int) (a0_1 : Int) (a0_2 : Int) (a0_3 : ByteArray) (a1 : Int) (a2 : Int) (a3 : ByteArray) (a4 : Int) (a5 : Int) : Option (Bool) := (federationlaw1_known.f k).bind fun t102 => (if t102 = true then (if (a3.size : Int) > 100 then (federationlaw1_ValRight.j0 k a1 a2 a3 a4 a5 true a0_0 a0_1 a0_2 a0_3) else (federationlaw1_ValRight.j0 k a1 a2 a3 a4 a5 (decide ((a0_3.size : Int) > 100)) a0_0 a0_1 a0_2 a0_3)) else (none))
def federationlaw1_ValRight.T6 : Bool × List (List Nat × List Nat) := (true, [([], []), ([0], [0]), ([1], [1]), ([2, 1], [2]), ([3], [3]), ([4, 3, 3], [3, 4]), ([3], [3]), ([5, 6, 3], [3, 5, 6]), ([3, 7], [3, 7])])
def federationlaw1_ValRight.B6 : List Nat := [0, 1, 3, 7, 15, 31, 15, 127, 255]
theorem federationlaw1_ValRight.tab6 : rtab .any (opsOf Try.f3 6) = federationlaw1_ValRight.T6 := by kernel_rfl
theorem federationlaw1_ValRight.bits6 : waitsOk federationlaw1_ValRight.T6.2 federationlaw1_ValRight.B6 = true := by kernel_rfl
def federationlaw1_ValRight.T17 : Bool × List (List Nat × List Nat) := (true, [([], []), ([0], [0]), ([], []), ([2, 1], [2]), ([1, 3], [1, 3]), ([4, 3], [4]), ([5], [5]), ([6, 5, 5], [5, 6]), ([5], [5]), ([8, 7, 5], [5, 8]), ([7, 9, 5], [5, 7, 9]), ([5, 10], [5, 10]), ([11, 9], [11]), ([12], [12]), ([13, 12, 12], [12, 13]), ([12], [12]), ([15, 14, 12], [12, 15]), ([14, 16, 12], [12, 14, 16]), ([12, 17], [12, 17]), ([18, 16], [18]), ([19], [19]), ([20, 19, 19], [19, 20]), ([19], [19]), ([22, 21, 19], [19, 22]), ([21, 23, 19], [19, 21, 23]), ([19, 24], [19, 24]), ([25, 23, 0, 1, 2, 3, 4, 5, 6, 7, 8, 9, 10, 11, 12, 13, 14, 15, 16, 17, 18, 19, 20, 21, 22, 23, 24, 25], [25])])
def federationlaw1_ValRight.B17 : List Nat := [0, 1, 0, 7, 15, 31, 63, 127, 63, 511, 1023, 2047, 4095, 8191, 16383, 8191, 65535, 131071, 262143, 524287, 1048575, 2097151, 1048575, 8388607, 16777215, 33554431, 67108863]
theorem federationlaw1_ValRight.tab17 : rtab .any (opsOf Try.f3 17) = federationlaw1_ValRight.T17 := by kernel_rfl
theorem federationlaw1_ValRight.bits17 : waitsOk federationlaw1_ValRight.T17.2 federationlaw1_ValRight.B17 = true := by kernel_rfl
set_option maxHeartbeats 8000000 in
set_option maxRecDepth 100000 in
theorem federationlaw1_ValRight.calls (k : Nat) (a0_0 : Int) (a0_1 : Int) (a0_2 : Int) (a0_3 : ByteArray) (a1 : Int) (a2 : Int) (a3 : ByteArray) (a4 : Int) (a5 : Int) (r : Bool) (w : World) (h : federationlaw1_ValRight.f k a0_0 a0_1 a0_2 a0_3 a1 a2 a3 a4 a5 = some r) :
    Calls Try.prog 3 #[.agg #[.int .i64 a0_0, .int .i64 a0_1, .int .i64 a0_2, .string a0_3], .int .i64 a1, .int .i64 a2, .string a3, .int .i64 a4, .int .i64 a5] w fun e w' => e = .returned (.bool r) ∧ Below w.heap.size w w' := by
  have hu23 := Try.underlying23
  have HB := Aside0.mk (Below.refl w.heap.size w)
  have H : ((federationlaw1_known.f k).bind fun t102 => (if t102 = true then (if (a3.size : Int) > 100 then (federationlaw1_ValRight.j0 k a1 a2 a3 a4 a5 true a0_0 a0_1 a0_2 a0_3) else (federationlaw1_ValRight.j0 k a1 a2 a3 a4 a5 (decide ((a0_3.size : Int) > 100)) a0_0 a0_1 a0_2 a0_3)) else (none))) = some r := h
  clear h
  replace H := Option.bind_eq_some_iff.mp H
  obtain ⟨t102, A70, H⟩ := H
  replace H : (if t102 = true then (if (a3.size : Int) > 100 then (federationlaw1_ValRight.j0 k a1 a2 a3 a4 a5 true a0_0 a0_1 a0_2 a0_3) else (federationlaw1_ValRight.j0 k a1 a2 a3 a4 a5 (decide ((a0_3.size : Int) > 100)) a0_0 a0_1 a0_2 a0_3)) else (none)) = some r := H
  have A7 := Aside0.mk A70
  clear A70
  by_cases c8 : t102 = true
  · subst c8
    have H1 : (if (a3.size : Int) > 100 then (federationlaw1_ValRight.j0 k a1 a2 a3 a4 a5 true a0_0 a0_1 a0_2 a0_3) else (federationlaw1_ValRight.j0 k a1 a2 a3 a4 a5 (decide ((a0_3.size : Int) > 100)) a0_0 a0_1 a0_2 a0_3)) = some r := by rw [if_pos rfl] at H; exact H
    clear H
    have H := H1
    clear H1
    have HC9 := Aside0.mk H
    clear H
    go_enter Try.func3, Try.ntmps3
    go_upto_region 3 with (first | ((with_reducible refine gate_dst (N := 6) rfl ?_); (try (refine gate_guard (by rfl) ?_; dsimp only)); refine box_event ?hg (N := 6) ?hd (cs := #[.int .i64 a0_0, .int .i64 a0_1, .int .i64 a0_2, .string a0_3]) (t := 23) ?hr ?_; (case hd => rfl); (case hg => rfl); (case hr => first | (go_simp; done) | (go_simp; rfl)); intro gb101 hg w10 hbox hb; have n0_ := Aside0.mk (below_step (by repeat (first | (with_reducible first | exact HB.out | apply below_alloc | apply pw_below_drewN | apply below_drew1) | exact HB.out)) hb); have n1_ := Aside0.mk (hbox); have n2_ := Aside0.mk ((by rw [hg]; exact (below_size (by repeat (first | (with_reducible first | exact HB.out | apply below_alloc | apply pw_below_drewN | apply below_drew1) | exact HB.out))) : w.heap.size ≤ gb101)); have n3_ := Aside0.mk ((by rw [hg]; exact (below_size (by repeat (first | (with_reducible first | exact HB.out | apply below_alloc | apply pw_below_drewN | apply below_drew1) | exact HB.out))) : w.heap.size ≤ gb101)); clear HB; have HB := n0_; have BK101 := n1_; have GW101 := n2_; have GE101 := n3_; clear n0_ n1_ n2_ n3_; clear hb hbox hg) | ((with_reducible refine gate_callee (f := 13) rfl ?_); refine goesL_ (some 14) rfl rfl Try.func13 (by kernel_rfl) rfl #[] rfl (by (try simp only [List.map_toArray, List.map_cons, List.map_nil]); first | done | rfl | (simp only [List.length_drop, List.length_take]; rfl)) ?_; (with_reducible refine (federationlaw1_known.calls k  true _ A7.out).mono ?_); rintro e w11 ⟨rfl, hb⟩; refine ⟨_, rfl, ?_⟩; have n0_ := Aside0.mk (blk_below (g := gb101) (o := .cells #[.int .i64 a0_0, .int .i64 a0_1, .int .i64 a0_2, .string a0_3] 23 (0, 0)) (by (with_reducible repeat (first | refine blk_drewN ?_ _ | refine blk_drew ?_ | refine blk_alloc ?_ _)); exact BK101.out) hb); have n1_ := Aside0.mk (below_step (by repeat (first | (with_reducible first | exact HB.out | apply below_alloc | apply pw_below_drewN | apply below_drew1 | refine below_set ?_ GE101.out) | exact HB.out)) hb); clear BK101; clear HB; have BK101 := n0_; have HB := n1_; clear n0_ n1_; (try clear hb); (try clear hb2); (try clear hk); (try clear hi)))
    (try simp only [Act.put, List.setIfInBounds_toArray, List.set_cons_zero, List.set_cons_succ])
    go_cut [24] (fun v24 wc => ∃ (kq : Nat) (x24_8 : Bool), v24 = .bool x24_8 ∧ Aside0 (federationlaw1_ValRight.j0 kq a1 a2 a3 a4 a5 x24_8 a0_0 a0_1 a0_2 a0_3 = some r) ∧ Aside0 (kq ≤ k) ∧ Aside0 (wc.heap[gb101]? = some (.cells #[.int .i64 a0_0, .int .i64 a0_1, .int .i64 a0_2, .string a0_3] 23 (0, 0))) ∧ Aside0 (Below w.heap.size w wc))
    case first =>
      have H := HC9.out
      clear HC9
      by_cases c12 : (a3.size : Int) > 100
      · rw [if_pos c12] at H
        have c12b0 : decide (100 < (a3.size : Int)) = true := decide_eq_true c12
        have c12b1 : decide (100 < a3.size) = true := decide_eq_true (by omega)
        clear c12
        (first | rw [c12b0] | (simp only [i64_w, i32_w]; rw [c12b0]) | skip)
        have H' := Aside0.mk H
        clear H
        go_wp2
        go_meet
        case rel => exact ⟨_, (true), (by first | rfl | (simp; done) | (simp [*]; done)), H', ⟨by first | omega | exact Nat.le_refl _⟩, ⟨by (with_reducible repeat (first | refine blk_drewN ?_ _ | refine blk_drew ?_ | refine blk_alloc ?_ _)); exact BK101.out⟩, ⟨by repeat (first | (with_reducible first | exact HB.out | apply below_alloc | apply pw_below_drewN | apply below_drew1 | refine below_set ?_ GE101.out) | exact HB.out)⟩⟩
      · rw [if_neg c12] at H
        have c12b0 : decide (100 < (a3.size : Int)) = false := decide_eq_false c12
        have c12b1 : decide (100 < a3.size) = false := decide_eq_false (by omega)
        clear c12
        (first | rw [c12b0] | (simp only [i64_w, i32_w]; rw [c12b0]) | skip)
        have H' := Aside0.mk H
        clear H
        have hcz13_0 : w11.cell? ⟨gb101, 0, none⟩ = some (.int .i64 a0_0) := (blk_cell BK101.out 0).trans rfl
        have hcz13_1 : w11.cell? ⟨gb101, 1, none⟩ = some (.int .i64 a0_1) := (blk_cell BK101.out 1).trans rfl
        have hcz13_2 : w11.cell? ⟨gb101, 2, none⟩ = some (.int .i64 a0_2) := (blk_cell BK101.out 2).trans rfl
        have hcz13_3 : w11.cell? ⟨gb101, 3, none⟩ = some (.string a0_3) := (blk_cell BK101.out 3).trans rfl
        have hfz13_0 := blk_frozen BK101.out 0
        have hfz13_1 := blk_frozen BK101.out 1
        have hfz13_2 := blk_frozen BK101.out 2
        have hfz13_3 := blk_frozen BK101.out 3
        go_wp2
        go_meet
        case rel => exact ⟨_, (decide ((a0_3.size : Int) > 100)), (by first | rfl | (simp; done) | (simp [*]; done)), H', ⟨by first | omega | exact Nat.le_refl _⟩, ⟨by (with_reducible repeat (first | refine blk_drewN ?_ _ | refine blk_drew ?_ | refine blk_alloc ?_ _)); exact BK101.out⟩, ⟨by repeat (first | (with_reducible first | exact HB.out | apply below_alloc | apply pw_below_drewN | apply below_drew1 | refine below_set ?_ GE101.out) | exact HB.out)⟩⟩
    case rest =>
      clear HC9
      try clear c1
      try clear p2
      try clear c3
      try clear c8
      try clear c12
      try clear c12b0
      try clear c12b1
      try clear c13
      try clear hcz13_0
      try clear hcz13_1
      try clear hcz13_2
      try clear hcz13_3
      try clear hfz13_0
      try clear hfz13_1
      try clear hfz13_2
      try clear hfz13_3
      obtain ⟨kq, x24_8, rfl, HA, HJ8, BK101, HB⟩ := hcut
      cases kq with
      | zero => exact absurd HA.out (by simp [federationlaw1_ValRight.j0])
      | succ kj8 =>
        have H := HA.out
        clear HA
        simp only [federationlaw1_ValRight.j0] at H
        by_cases c14 : x24_8 = true
        · subst c14
          have H1 : (some true) = some r := by rw [if_pos rfl] at H; exact H
          clear H
          have H := H1
          clear H1
          obtain rfl := Option.some.inj H
          go_wp2
          go_ret
          exact ⟨by first | rfl | (simp [errW_none, errW_some] <;> rfl) | (simp [*, errW_none, errW_some] <;> rfl), by repeat (first | (with_reducible first | exact HB.out | apply below_alloc | apply pw_below_drewN | apply below_drew1 | refine below_set ?_ GE101.out) | exact HB.out)⟩
        · replace c14 := Bool.eq_false_iff.mpr c14
          subst c14
          have H1 : ((federationlaw1_Make.f kj8 a1 a2 a3).bind fun bt103 => ((val_Right.f kj8 bt103.1 bt103.2.1 bt103.2.2.1 bt103.2.2.2).bind fun t108 => (if t108 = true then ((val_Norm.f kj8 bt103.1 bt103.2.1 bt103.2.2.1 bt103.2.2.2).bind fun bt109 => (federationlaw1_ValRight.j1 kj8 a3 a4 a5 (!(bt109.1 == bt103.1) || (!(bt109.2.1 == bt103.2.1) || (!(bt109.2.2.1 == bt103.2.2.1) || (!(bt109.2.2.2.toList == bt103.2.2.2.toList))))) a0_0 a0_1 a0_2 a0_3 bt103.1 bt103.2.1 bt103.2.2.1 bt103.2.2.2)) else (federationlaw1_ValRight.j1 kj8 a3 a4 a5 true a0_0 a0_1 a0_2 a0_3 bt103.1 bt103.2.1 bt103.2.2.1 bt103.2.2.2)))) = some r := by rw [if_neg (show ¬ (false = true) by decide)] at H; exact H
          clear H
          have H := H1
          clear H1
          replace H := Option.bind_eq_some_iff.mp H
          obtain ⟨⟨t103, t104, t105, t106⟩, A150, H⟩ := H
          replace H : ((val_Right.f kj8 t103 t104 t105 t106).bind fun t108 => (if t108 = true then ((val_Norm.f kj8 t103 t104 t105 t106).bind fun bt109 => (federationlaw1_ValRight.j1 kj8 a3 a4 a5 (!(bt109.1 == t103) || (!(bt109.2.1 == t104) || (!(bt109.2.2.1 == t105) || (!(bt109.2.2.2.toList == t106.toList))))) a0_0 a0_1 a0_2 a0_3 t103 t104 t105 t106)) else (federationlaw1_ValRight.j1 kj8 a3 a4 a5 true a0_0 a0_1 a0_2 a0_3 t103 t104 t105 t106))) = some r := H
          have A15 := Aside0.mk A150
          clear A150
          have HC16 := Aside0.mk H
          clear H
          go_upto_region 6 with (first | ((with_reducible refine gate_callee (f := 14) rfl ?_); refine goesL_ (some 28) rfl rfl Try.func14 (by kernel_rfl) rfl #[.int .i64 a1, .int .i64 a2, .string a3] rfl (by (try simp only [List.map_toArray, List.map_cons, List.map_nil]); first | done | rfl | (simp only [List.length_drop, List.length_take]; rfl)) ?_; (with_reducible refine (federationlaw1_Make.calls kj8 a1 a2 a3 t103 t104 t105 t106 _ A15.out).mono ?_); rintro e w17 ⟨rfl, hb⟩; refine ⟨_, rfl, ?_⟩; have n0_ := Aside0.mk (blk_below (g := gb101) (o := .cells #[.int .i64 a0_0, .int .i64 a0_1, .int .i64 a0_2, .string a0_3] 23 (0, 0)) (by (with_reducible repeat (first | refine blk_drewN ?_ _ | refine blk_drew ?_ | refine blk_alloc ?_ _)); exact BK101.out) hb); have n1_ := Aside0.mk (below_step (by repeat (first | (with_reducible first | exact HB.out | apply below_alloc | apply pw_below_drewN | apply below_drew1 | refine below_set ?_ GE101.out) | exact HB.out)) hb); clear BK101; clear HB; have BK101 := n0_; have HB := n1_; clear n0_ n1_; (try clear hb); (try clear hb2); (try clear hk); (try clear hi)) | ((with_reducible refine gate_dst (N := 13) rfl ?_); (try (refine gate_guard (by rfl) ?_; dsimp only)); refine box_event ?hg (N := 13) ?hd (cs := #[.int .i64 0, .int .i64 0, .int .i64 0, .string (⟨#[]⟩ : ByteArray)]) (t := 23) ?hr ?_; (case hd => rfl); (case hg => rfl); (case hr => first | (go_simp; done) | (go_simp; rfl)); intro gb107 hg w18 hbox hb; have n0_ := Aside0.mk (blk_below (g := gb101) (o := .cells #[.int .i64 a0_0, .int .i64 a0_1, .int .i64 a0_2, .string a0_3] 23 (0, 0)) (by (with_reducible repeat (first | refine blk_drewN ?_ _ | refine blk_drew ?_ | refine blk_alloc ?_ _)); exact BK101.out) hb); have n1_ := Aside0.mk (below_step (by repeat (first | (with_reducible first | exact HB.out | apply below_alloc | apply pw_below_drewN | apply below_drew1 | refine below_set ?_ GE101.out) | exact HB.out)) hb); have n2_ := Aside0.mk (hbox); have n3_ := Aside0.mk ((by rw [hg]; exact (below_size (by repeat (first | (with_reducible first | exact HB.out | apply below_alloc | apply pw_below_drewN | apply below_drew1 | refine below_set ?_ GE101.out) | exact HB.out))) : w.heap.size ≤ gb107)); have n4_ := Aside0.mk ((by rw [hg]; exact (below_size (by repeat (first | (with_reducible first | exact HB.out | apply below_alloc | apply pw_below_drewN | apply below_drew1 | refine below_set ?_ GE101.out) | exact HB.out))) : w.heap.size ≤ gb107)); have n5_ := Aside0.mk ((by rw [hg]; exact Nat.ne_of_lt (blk_lt (g := gb101) (o := .cells #[.int .i64 a0_0, .int .i64 a0_1, .int .i64 a0_2, .string a0_3] 23 (0, 0)) (by (with_reducible repeat (first | refine blk_drewN ?_ _ | refine blk_drew ?_ | refine blk_alloc ?_ _)); exact BK101.out)) : gb101 ≠ gb107)); have n6_ := Aside0.mk ((by rw [hg]; exact Nat.ne_of_gt (blk_lt (g := gb101) (o := .cells #[.int .i64 a0_0, .int .i64 a0_1, .int .i64 a0_2, .string a0_3] 23 (0, 0)) (by (with_reducible repeat (first | refine blk_drewN ?_ _ | refine blk_drew ?_ | refine blk_alloc ?_ _)); exact BK101.out)) : gb107 ≠ gb101)); clear BK101; clear HB; have BK101 := n0_; have HB := n1_; have BK107 := n2_; have GW107 := n3_; have GE107 := n4_; have NB101_107 := n5_; have NB107_101 := n6_; clear n0_ n1_ n2_ n3_ n4_ n5_ n6_; clear hb hbox hg; have hnb19 := NB107_101.out; have hnc19 := NB101_107.out; have hcz20_0 : w18.cell? ⟨gb107, 0, none⟩ = some (.int .i64 0) := (blk_cell BK107.out 0).trans rfl; have hcz20_1 : w18.cell? ⟨gb107, 1, none⟩ = some (.int .i64 0) := (blk_cell BK107.out 1).trans rfl; have hcz20_2 : w18.cell? ⟨gb107, 2, none⟩ = some (.int .i64 0) := (blk_cell BK107.out 2).trans rfl; have hcz20_3 : w18.cell? ⟨gb107, 3, none⟩ = some (.string (⟨#[]⟩ : ByteArray)) := (blk_cell BK107.out 3).trans rfl; have hfz20_0 := blk_frozen BK107.out 0; have hfz20_1 := blk_frozen BK107.out 1; have hfz20_2 := blk_frozen BK107.out 2; have hfz20_3 := blk_frozen BK107.out 3))
          (try simp only [Act.put, List.setIfInBounds_toArray, List.set_cons_zero, List.set_cons_succ])
          go_cut [37] (fun v37 wc => ∃ (kq : Nat) (x37_15 : Bool), v37 = .bool x37_15 ∧ Aside0 (federationlaw1_ValRight.j1 kq a3 a4 a5 x37_15 a0_0 a0_1 a0_2 a0_3 t103 t104 t105 t106 = some r) ∧ Aside0 (kq ≤ kj8) ∧ Aside0 (wc.heap[gb101]? = some (.cells #[.int .i64 a0_0, .int .i64 a0_1, .int .i64 a0_2, .string a0_3] 23 (0, 0))) ∧ Aside0 (wc.heap[gb107]? = some (.cells #[.int .i64 t103, .int .i64 t104, .int .i64 t105, .string t106] 23 (0, 0))) ∧ Aside0 (Below w.heap.size w wc))
          case first =>
            have H := HC16.out
            clear HC16
            replace H := Option.bind_eq_some_iff.mp H
            obtain ⟨t108, A210, H⟩ := H
            replace H : (if t108 = true then ((val_Norm.f kj8 t103 t104 t105 t106).bind fun bt109 => (federationlaw1_ValRight.j1 kj8 a3 a4 a5 (!(bt109.1 == t103) || (!(bt109.2.1 == t104) || (!(bt109.2.2.1 == t105) || (!(bt109.2.2.2.toList == t106.toList))))) a0_0 a0_1 a0_2 a0_3 t103 t104 t105 t106)) else (federationlaw1_ValRight.j1 kj8 a3 a4 a5 true a0_0 a0_1 a0_2 a0_3 t103 t104 t105 t106)) = some r := H
            have A21 := Aside0.mk A210
            clear A210
            by_cases c22 : t108 = true
            · subst c22
              have H1 : ((val_Norm.f kj8 t103 t104 t105 t106).bind fun bt109 => (federationlaw1_ValRight.j1 kj8 a3 a4 a5 (!(bt109.1 == t103) || (!(bt109.2.1 == t104) || (!(bt109.2.2.1 == t105) || (!(bt109.2.2.2.toList == t106.toList))))) a0_0 a0_1 a0_2 a0_3 t103 t104 t105 t106)) = some r := by rw [if_pos rfl] at H; exact H
              clear H
              have H := H1
              clear H1
              replace H := Option.bind_eq_some_iff.mp H
              obtain ⟨⟨t109, t110, t111, t112⟩, A230, H⟩ := H
              replace H : (federationlaw1_ValRight.j1 kj8 a3 a4 a5 (!(t109 == t103) || (!(t110 == t104) || (!(t111 == t105) || (!(t112.toList == t106.toList))))) a0_0 a0_1 a0_2 a0_3 t103 t104 t105 t106) = some r := H
              have A23 := Aside0.mk A230
              clear A230
              have H' := Aside0.mk H
              clear H
              try go_wp2
              have n0_ : Aside0 (((((w18.setCell ⟨gb107, 0, none⟩ (.int .i64 t103)).setCell ⟨gb107, 1, none⟩ (.int .i64 t104)).setCell ⟨gb107, 2, none⟩ (.int .i64 t105)).setCell ⟨gb107, 3, none⟩ (.string t106)).heap[gb101]? = some (.cells #[.int .i64 a0_0, .int .i64 a0_1, .int .i64 a0_2, .string a0_3] 23 (0, 0))) := ⟨by (with_reducible repeat (first | refine blk_drewN ?_ _ | refine blk_drew ?_ | refine blk_alloc ?_ _)); refine blk_far ?_ NB101_107.out _; (with_reducible repeat (first | refine blk_drewN ?_ _ | refine blk_drew ?_ | refine blk_alloc ?_ _)); refine blk_far ?_ NB101_107.out _; (with_reducible repeat (first | refine blk_drewN ?_ _ | refine blk_drew ?_ | refine blk_alloc ?_ _)); refine blk_far ?_ NB101_107.out _; (with_reducible repeat (first | refine blk_drewN ?_ _ | refine blk_drew ?_ | refine blk_alloc ?_ _)); refine blk_far ?_ NB101_107.out _; (with_reducible repeat (first | refine blk_drewN ?_ _ | refine blk_drew ?_ | refine blk_alloc ?_ _)); exact BK101.out⟩
              have n1_ : Aside0 (((((w18.setCell ⟨gb107, 0, none⟩ (.int .i64 t103)).setCell ⟨gb107, 1, none⟩ (.int .i64 t104)).setCell ⟨gb107, 2, none⟩ (.int .i64 t105)).setCell ⟨gb107, 3, none⟩ (.string t106)).heap[gb107]? = some (.cells #[.int .i64 t103, .int .i64 t104, .int .i64 t105, .string t106] 23 (0, 0))) := ⟨by (with_reducible repeat (first | refine blk_drewN ?_ _ | refine blk_drew ?_ | refine blk_alloc ?_ _)); refine blk_put (cs := #[.int .i64 t103, .int .i64 t104, .int .i64 t105, .string (⟨#[]⟩ : ByteArray)]) ?_ 3 _ rfl; (with_reducible repeat (first | refine blk_drewN ?_ _ | refine blk_drew ?_ | refine blk_alloc ?_ _)); refine blk_put (cs := #[.int .i64 t103, .int .i64 t104, .int .i64 0, .string (⟨#[]⟩ : ByteArray)]) ?_ 2 _ rfl; (with_reducible repeat (first | refine blk_drewN ?_ _ | refine blk_drew ?_ | refine blk_alloc ?_ _)); refine blk_put (cs := #[.int .i64 t103, .int .i64 0, .int .i64 0, .string (⟨#[]⟩ : ByteArray)]) ?_ 1 _ rfl; (with_reducible repeat (first | refine blk_drewN ?_ _ | refine blk_drew ?_ | refine blk_alloc ?_ _)); refine blk_put (cs := #[.int .i64 0, .int .i64 0, .int .i64 0, .string (⟨#[]⟩ : ByteArray)]) ?_ 0 _ rfl; (with_reducible repeat (first | refine blk_drewN ?_ _ | refine blk_drew ?_ | refine blk_alloc ?_ _)); exact BK107.out⟩
              have n2_ : Aside0 (Below w.heap.size w ((((w18.setCell ⟨gb107, 0, none⟩ (.int .i64 t103)).setCell ⟨gb107, 1, none⟩ (.int .i64 t104)).setCell ⟨gb107, 2, none⟩ (.int .i64 t105)).setCell ⟨gb107, 3, none⟩ (.string t106))) := ⟨by repeat (first | (with_reducible first | exact HB.out | apply below_alloc | apply pw_below_drewN | apply below_drew1 | refine below_set ?_ GE101.out | refine below_set ?_ GE107.out) | exact HB.out)⟩
              (try clear BK101)
              (try clear BK107)
              (try clear HB)
              generalize ((((w18.setCell ⟨gb107, 0, none⟩ (.int .i64 t103)).setCell ⟨gb107, 1, none⟩ (.int .i64 t104)).setCell ⟨gb107, 2, none⟩ (.int .i64 t105)).setCell ⟨gb107, 3, none⟩ (.string t106)) = w24 at n0_ n1_ n2_ ⊢
              have BK101 := n0_
              have BK107 := n1_
              have HB := n2_
              clear n0_ n1_ n2_
              have n0_ := Aside0.mk (blk_drew BK101.out)
              have n1_ := Aside0.mk (blk_drew BK107.out)
              have n2_ := Aside0.mk (below_drew1 HB.out)
              clear BK101
              clear BK107
              clear HB
              have BK101 := n0_
              have BK107 := n1_
              have HB := n2_
              clear n0_ n1_ n2_
              refine start_ (n := 9) (S := fun w' => w'.cell? ⟨gb107, 0, none⟩ = some (.int .i64 t103) ∧ w'.cell? ⟨gb107, 1, none⟩ = some (.int .i64 t104) ∧ w'.cell? ⟨gb107, 2, none⟩ = some (.int .i64 t105) ∧ w'.cell? ⟨gb107, 3, none⟩ = some (.string t106)) (ds := []) #[false, false, false, false, false, false, false, false, false] (by kernel_rfl) rfl rfl ⟨(blk_cell BK107.out 0).trans rfl, (blk_cell BK107.out 1).trans rfl, (blk_cell BK107.out 2).trans rfl, (blk_cell BK107.out 3).trans rfl⟩ (fun hHeld => ?_); refine with_tabW federationlaw1_ValRight.tab6 federationlaw1_ValRight.bits6 (fun HT_ HW_ => ?_)
              generalize w24.drew = w25 at BK101 BK107 HB hHeld ⊢
              refine take_ (i := 0) (N := some 29) (v := ?_) (a' := ?_) #[true, false, false, false, false, false, false, false, false] rfl rfl (take_ofW HT_.out HW_.out (by kernel_rfl)) (fun _ _ _ h => h) (Or.inl ⟨by rfl, ?_⟩) hHeld ?_ ?_
              rotate_left
              · rintro w' ⟨s0, s1, s2, s3⟩
                go_simp
                with_reducible rfl
              rotate_left
              · simp only [Act.put, List.setIfInBounds_toArray, List.set_cons_zero, List.set_cons_succ, i64_w, i32_w]
                rfl
              refine one_ (i := 1) (N := some 30) #[true, true, false, false, false, false, false, false, false] rfl rfl (one_of HT_.out (by kernel_rfl)) (by decide) (fun K hK => ?_)
              refine goes_ Try.func15 (by kernel_rfl) rfl #[.agg #[.int .i64 t103, .int .i64 t104, .int .i64 t105, .string t106]] (by rfl) rfl rfl (by (try simp only [List.map_toArray, List.map_cons, List.map_nil]); first | done | rfl | (simp only [List.length_drop, List.length_take]; rfl)) ?_
              with_reducible refine (val_Right.calls kj8 t103 t104 t105 t106 true _ A21.out).mono ?_
              rintro e w26 ⟨rfl, hb⟩
              refine ⟨_, rfl, ?_⟩
              have n0_ := Aside0.mk (blk_below (g := gb101) (o := .cells #[.int .i64 a0_0, .int .i64 a0_1, .int .i64 a0_2, .string a0_3] 23 (0, 0)) (by (with_reducible repeat (first | refine blk_drewN ?_ _ | refine blk_drew ?_ | refine blk_alloc ?_ _)); exact BK101.out) hb)
              have n1_ := Aside0.mk (blk_below (g := gb107) (o := .cells #[.int .i64 t103, .int .i64 t104, .int .i64 t105, .string t106] 23 (0, 0)) (by (with_reducible repeat (first | refine blk_drewN ?_ _ | refine blk_drew ?_ | refine blk_alloc ?_ _)); exact BK107.out) hb)
              have n2_ := Aside0.mk (below_step (by repeat (first | (with_reducible first | exact HB.out | apply below_alloc | apply pw_below_drewN | apply below_drew1 | refine below_set ?_ GE101.out | refine below_set ?_ GE107.out) | exact HB.out)) hb)
              clear BK101
              clear BK107
              clear HB
              have BK101 := n0_
              have BK107 := n1_
              have HB := n2_
              clear n0_ n1_ n2_
              (try clear hb)
              (try clear hb2)
              (try clear hk)
              (try clear hi)
              refine hK.out _ _ ⟨(blk_cell BK107.out 0).trans rfl, (blk_cell BK107.out 1).trans rfl, (blk_cell BK107.out 2).trans rfl, (blk_cell BK107.out 3).trans rfl⟩ (fun hHeld => ?_)
              clear hK K
              refine norm_ (a' := ?_) ?_ ?_
              rotate_left
              · show Act.put _ (some 30) _ = _
                simp only [Act.put, List.setIfInBounds_toArray, List.set_cons_zero, List.set_cons_succ, i64_w, i32_w]
                rfl
              refine pure_ (i := 2) (N := some 31) (v := ?_) (a' := ?_) #[true, true, true, false, false, false, false, false, false] rfl rfl (any_of HT_.out (by kernel_rfl)) (fun _ _ _ h => h) (Or.inl ⟨by rfl, ?_⟩) ?_ ?_
              rotate_left
              · intro w'
                go_simp
                with_reducible rfl
              rotate_left
              · simp only [Act.put, List.setIfInBounds_toArray, List.set_cons_zero, List.set_cons_succ, i64_w, i32_w]
                rfl
              refine pure_ (i := 3) (N := some 32) (v := ?_) (a' := ?_) #[true, true, true, true, false, false, false, false, false] rfl rfl (any_of HT_.out (by kernel_rfl)) (fun _ _ _ h => h) (Or.inl ⟨by rfl, ?_⟩) ?_ ?_
              rotate_left
              · intro w'
                go_simp
                with_reducible rfl
              rotate_left
              · simp only [Act.put, List.setIfInBounds_toArray, List.set_cons_zero, List.set_cons_succ, i64_w, i32_w]
                rfl
              refine take_ (i := 4) (N := some 33) (v := ?_) (a' := ?_) #[true, true, true, true, true, false, false, false, false] rfl rfl (take_ofW HT_.out HW_.out (by kernel_rfl)) (fun _ _ _ h => h) (Or.inl ⟨by rfl, ?_⟩) hHeld ?_ ?_
              rotate_left
              · rintro w' ⟨s0, s1, s2, s3⟩
                go_simp
                with_reducible rfl
              rotate_left
              · simp only [Act.put, List.setIfInBounds_toArray, List.set_cons_zero, List.set_cons_succ, i64_w, i32_w]
                rfl
              refine take_ (i := 6) (N := some 35) (v := ?_) (a' := ?_) #[true, true, true, true, true, false, true, false, false] rfl rfl (take_ofW HT_.out HW_.out (by kernel_rfl)) (fun _ _ _ h => h) (Or.inl ⟨by rfl, ?_⟩) hHeld ?_ ?_
              rotate_left
              · rintro w' ⟨s0, s1, s2, s3⟩
                go_simp
                with_reducible rfl
              rotate_left
              · simp only [Act.put, List.setIfInBounds_toArray, List.set_cons_zero, List.set_cons_succ, i64_w, i32_w]
                rfl
              refine one_ (i := 5) (N := some 34) #[true, true, true, true, true, true, true, false, false] rfl rfl (one_of HT_.out (by kernel_rfl)) (by decide) (fun K hK => ?_)
              refine goes_ Try.func16 (by kernel_rfl) rfl #[.agg #[.int .i64 t103, .int .i64 t104, .int .i64 t105, .string t106]] (by rfl) rfl rfl (by (try simp only [List.map_toArray, List.map_cons, List.map_nil]); first | done | rfl | (simp only [List.length_drop, List.length_take]; rfl)) ?_
              with_reducible refine (val_Norm.calls kj8 t103 t104 t105 t106 t109 t110 t111 t112 _ A23.out).mono ?_
              rintro e w27 ⟨rfl, hb⟩
              refine ⟨_, rfl, ?_⟩
              have n0_ := Aside0.mk (blk_below (g := gb101) (o := .cells #[.int .i64 a0_0, .int .i64 a0_1, .int .i64 a0_2, .string a0_3] 23 (0, 0)) (by (with_reducible repeat (first | refine blk_drewN ?_ _ | refine blk_drew ?_ | refine blk_alloc ?_ _)); exact BK101.out) hb)
              have n1_ := Aside0.mk (blk_below (g := gb107) (o := .cells #[.int .i64 t103, .int .i64 t104, .int .i64 t105, .string t106] 23 (0, 0)) (by (with_reducible repeat (first | refine blk_drewN ?_ _ | refine blk_drew ?_ | refine blk_alloc ?_ _)); exact BK107.out) hb)
              have n2_ := Aside0.mk (below_step (by repeat (first | (with_reducible first | exact HB.out | apply below_alloc | apply pw_below_drewN | apply below_drew1 | refine below_set ?_ GE101.out | refine below_set ?_ GE107.out) | exact HB.out)) hb)
              clear BK101
              clear BK107
              clear HB
              have BK101 := n0_
              have BK107 := n1_
              have HB := n2_
              clear n0_ n1_ n2_
              (try clear hb)
              (try clear hb2)
              (try clear hk)
              (try clear hi)
              refine hK.out _ _ ⟨(blk_cell BK107.out 0).trans rfl, (blk_cell BK107.out 1).trans rfl, (blk_cell BK107.out 2).trans rfl, (blk_cell BK107.out 3).trans rfl⟩ (fun hHeld => ?_)
              clear hK K
              refine norm_ (a' := ?_) ?_ ?_
              rotate_left
              · show Act.put _ (some 34) _ = _
                simp only [Act.put, List.setIfInBounds_toArray, List.set_cons_zero, List.set_cons_succ, i64_w, i32_w]
                rfl
              refine pure_ (i := 7) (N := some 36) (v := ?_) (a' := ?_) #[true, true, true, true, true, true, true, true, false] rfl rfl (any_of HT_.out (by kernel_rfl)) (fun _ _ _ h => h) (Or.inl ⟨by rfl, ?_⟩) ?_ ?_
              rotate_left
              · intro w'
                go_simp
                with_reducible rfl
              rotate_left
              · simp only [Act.put, List.setIfInBounds_toArray, List.set_cons_zero, List.set_cons_succ, i64_w, i32_w]
                rfl
              refine pure_ (i := 8) (N := some 37) (v := ?_) (a' := ?_) #[true, true, true, true, true, true, true, true, true] rfl rfl (any_of HT_.out (by kernel_rfl)) (fun _ _ _ h => h) (Or.inl ⟨by rfl, ?_⟩) ?_ ?_
              rotate_left
              · intro w'
                go_simp
                with_reducible rfl
              rotate_left
              · simp only [Act.put, List.setIfInBounds_toArray, List.set_cons_zero, List.set_cons_succ, i64_w, i32_w]
                rfl
              refine done_ (done_of HT_.out (by kernel_rfl)) ?_
              try go_wp2
              go_meet
              case rel => exact ⟨_, ((!(t109 == t103) || (!(t110 == t104) || (!(t111 == t105) || (!(t112.toList == t106.toList)))))), (by first | rfl | (simp; done) | (simp [*]; done)), H', ⟨by have := HJ8.out; first | omega | exact Nat.le_refl _⟩, ⟨by (with_reducible repeat (first | refine blk_drewN ?_ _ | refine blk_drew ?_ | refine blk_alloc ?_ _)); exact BK101.out⟩, ⟨by (with_reducible repeat (first | refine blk_drewN ?_ _ | refine blk_drew ?_ | refine blk_alloc ?_ _)); exact BK107.out⟩, ⟨by repeat (first | (with_reducible first | exact HB.out | apply below_alloc | apply pw_below_drewN | apply below_drew1 | refine below_set ?_ GE101.out | refine below_set ?_ GE107.out) | exact HB.out)⟩⟩
            · replace c22 := Bool.eq_false_iff.mpr c22
              subst c22
              have H1 : (federationlaw1_ValRight.j1 kj8 a3 a4 a5 true a0_0 a0_1 a0_2 a0_3 t103 t104 t105 t106) = some r := by rw [if_neg (show ¬ (false = true) by decide)] at H; exact H
              clear H
              have H := H1
              clear H1
              have H' := Aside0.mk H
              clear H
              try go_wp2
              have n0_ : Aside0 (((((w18.setCell ⟨gb107, 0, none⟩ (.int .i64 t103)).setCell ⟨gb107, 1, none⟩ (.int .i64 t104)).setCell ⟨gb107, 2, none⟩ (.int .i64 t105)).setCell ⟨gb107, 3, none⟩ (.string t106)).heap[gb101]? = some (.cells #[.int .i64 a0_0, .int .i64 a0_1, .int .i64 a0_2, .string a0_3] 23 (0, 0))) := ⟨by (with_reducible repeat (first | refine blk_drewN ?_ _ | refine blk_drew ?_ | refine blk_alloc ?_ _)); refine blk_far ?_ NB101_107.out _; (with_reducible repeat (first | refine blk_drewN ?_ _ | refine blk_drew ?_ | refine blk_alloc ?_ _)); refine blk_far ?_ NB101_107.out _; (with_reducible repeat (first | refine blk_drewN ?_ _ | refine blk_drew ?_ | refine blk_alloc ?_ _)); refine blk_far ?_ NB101_107.out _; (with_reducible repeat (first | refine blk_drewN ?_ _ | refine blk_drew ?_ | refine blk_alloc ?_ _)); refine blk_far ?_ NB101_107.out _; (with_reducible repeat (first | refine blk_drewN ?_ _ | refine blk_drew ?_ | refine blk_alloc ?_ _)); exact BK101.out⟩
              have n1_ : Aside0 (((((w18.setCell ⟨gb107, 0, none⟩ (.int .i64 t103)).setCell ⟨gb107, 1, none⟩ (.int .i64 t104)).setCell ⟨gb107, 2, none⟩ (.int .i64 t105)).setCell ⟨gb107, 3, none⟩ (.string t106)).heap[gb107]? = some (.cells #[.int .i64 t103, .int .i64 t104, .int .i64 t105, .string t106] 23 (0, 0))) := ⟨by (with_reducible repeat (first | refine blk_drewN ?_ _ | refine blk_drew ?_ | refine blk_alloc ?_ _)); refine blk_put (cs := #[.int .i64 t103, .int .i64 t104, .int .i64 t105, .string (⟨#[]⟩ : ByteArray)]) ?_ 3 _ rfl; (with_reducible repeat (first | refine blk_drewN ?_ _ | refine blk_drew ?_ | refine blk_alloc ?_ _)); refine blk_put (cs := #[.int .i64 t103, .int .i64 t104, .int .i64 0, .string (⟨#[]⟩ : ByteArray)]) ?_ 2 _ rfl; (with_reducible repeat (first | refine blk_drewN ?_ _ | refine blk_drew ?_ | refine blk_alloc ?_ _)); refine blk_put (cs := #[.int .i64 t103, .int .i64 0, .int .i64 0, .string (⟨#[]⟩ : ByteArray)]) ?_ 1 _ rfl; (with_reducible repeat (first | refine blk_drewN ?_ _ | refine blk_drew ?_ | refine blk_alloc ?_ _)); refine blk_put (cs := #[.int .i64 0, .int .i64 0, .int .i64 0, .string (⟨#[]⟩ : ByteArray)]) ?_ 0 _ rfl; (with_reducible repeat (first | refine blk_drewN ?_ _ | refine blk_drew ?_ | refine blk_alloc ?_ _)); exact BK107.out⟩
              have n2_ : Aside0 (Below w.heap.size w ((((w18.setCell ⟨gb107, 0, none⟩ (.int .i64 t103)).setCell ⟨gb107, 1, none⟩ (.int .i64 t104)).setCell ⟨gb107, 2, none⟩ (.int .i64 t105)).setCell ⟨gb107, 3, none⟩ (.string t106))) := ⟨by repeat (first | (with_reducible first | exact HB.out | apply below_alloc | apply pw_below_drewN | apply below_drew1 | refine below_set ?_ GE101.out | refine below_set ?_ GE107.out) | exact HB.out)⟩
              (try clear BK101)
              (try clear BK107)
              (try clear HB)
              generalize ((((w18.setCell ⟨gb107, 0, none⟩ (.int .i64 t103)).setCell ⟨gb107, 1, none⟩ (.int .i64 t104)).setCell ⟨gb107, 2, none⟩ (.int .i64 t105)).setCell ⟨gb107, 3, none⟩ (.string t106)) = w28 at n0_ n1_ n2_ ⊢
              have BK101 := n0_
              have BK107 := n1_
              have HB := n2_
              clear n0_ n1_ n2_
              have n0_ := Aside0.mk (blk_drew BK101.out)
              have n1_ := Aside0.mk (blk_drew BK107.out)
              have n2_ := Aside0.mk (below_drew1 HB.out)
              clear BK101
              clear BK107
              clear HB
              have BK101 := n0_
              have BK107 := n1_
              have HB := n2_
              clear n0_ n1_ n2_
              refine start_ (n := 9) (S := fun w' => w'.cell? ⟨gb107, 0, none⟩ = some (.int .i64 t103) ∧ w'.cell? ⟨gb107, 1, none⟩ = some (.int .i64 t104) ∧ w'.cell? ⟨gb107, 2, none⟩ = some (.int .i64 t105) ∧ w'.cell? ⟨gb107, 3, none⟩ = some (.string t106)) (ds := []) #[false, false, false, false, false, false, false, false, false] (by kernel_rfl) rfl rfl ⟨(blk_cell BK107.out 0).trans rfl, (blk_cell BK107.out 1).trans rfl, (blk_cell BK107.out 2).trans rfl, (blk_cell BK107.out 3).trans rfl⟩ (fun hHeld => ?_); refine with_tabW federationlaw1_ValRight.tab6 federationlaw1_ValRight.bits6 (fun HT_ HW_ => ?_)
              generalize w28.drew = w29 at BK101 BK107 HB hHeld ⊢
              refine take_ (i := 0) (N := some 29) (v := ?_) (a' := ?_) #[true, false, false, false, false, false, false, false, false] rfl rfl (take_ofW HT_.out HW_.out (by kernel_rfl)) (fun _ _ _ h => h) (Or.inl ⟨by rfl, ?_⟩) hHeld ?_ ?_
              rotate_left
              · rintro w' ⟨s0, s1, s2, s3⟩
                go_simp
                with_reducible rfl
              rotate_left
              · simp only [Act.put, List.setIfInBounds_toArray, List.set_cons_zero, List.set_cons_succ, i64_w, i32_w]
                rfl
              refine one_ (i := 1) (N := some 30) #[true, true, false, false, false, false, false, false, false] rfl rfl (one_of HT_.out (by kernel_rfl)) (by decide) (fun K hK => ?_)
              refine goes_ Try.func15 (by kernel_rfl) rfl #[.agg #[.int .i64 t103, .int .i64 t104, .int .i64 t105, .string t106]] (by rfl) rfl rfl (by (try simp only [List.map_toArray, List.map_cons, List.map_nil]); first | done | rfl | (simp only [List.length_drop, List.length_take]; rfl)) ?_
              with_reducible refine (val_Right.calls kj8 t103 t104 t105 t106 false _ A21.out).mono ?_
              rintro e w30 ⟨rfl, hb⟩
              refine ⟨_, rfl, ?_⟩
              have n0_ := Aside0.mk (blk_below (g := gb101) (o := .cells #[.int .i64 a0_0, .int .i64 a0_1, .int .i64 a0_2, .string a0_3] 23 (0, 0)) (by (with_reducible repeat (first | refine blk_drewN ?_ _ | refine blk_drew ?_ | refine blk_alloc ?_ _)); exact BK101.out) hb)
              have n1_ := Aside0.mk (blk_below (g := gb107) (o := .cells #[.int .i64 t103, .int .i64 t104, .int .i64 t105, .string t106] 23 (0, 0)) (by (with_reducible repeat (first | refine blk_drewN ?_ _ | refine blk_drew ?_ | refine blk_alloc ?_ _)); exact BK107.out) hb)
              have n2_ := Aside0.mk (below_step (by repeat (first | (with_reducible first | exact HB.out | apply below_alloc | apply pw_below_drewN | apply below_drew1 | refine below_set ?_ GE101.out | refine below_set ?_ GE107.out) | exact HB.out)) hb)
              clear BK101
              clear BK107
              clear HB
              have BK101 := n0_
              have BK107 := n1_
              have HB := n2_
              clear n0_ n1_ n2_
              (try clear hb)
              (try clear hb2)
              (try clear hk)
              (try clear hi)
              refine hK.out _ _ ⟨(blk_cell BK107.out 0).trans rfl, (blk_cell BK107.out 1).trans rfl, (blk_cell BK107.out 2).trans rfl, (blk_cell BK107.out 3).trans rfl⟩ (fun hHeld => ?_)
              clear hK K
              refine norm_ (a' := ?_) ?_ ?_
              rotate_left
              · show Act.put _ (some 30) _ = _
                simp only [Act.put, List.setIfInBounds_toArray, List.set_cons_zero, List.set_cons_succ, i64_w, i32_w]
                rfl
              refine pure_ (i := 2) (N := some 31) (v := ?_) (a' := ?_) #[true, true, true, false, false, false, false, false, false] rfl rfl (any_of HT_.out (by kernel_rfl)) (fun _ _ _ h => h) (Or.inl ⟨by rfl, ?_⟩) ?_ ?_
              rotate_left
              · intro w'
                go_simp
                with_reducible rfl
              rotate_left
              · simp only [Act.put, List.setIfInBounds_toArray, List.set_cons_zero, List.set_cons_succ, i64_w, i32_w]
                rfl
              refine pure_ (i := 3) (N := some 32) (v := ?_) (a' := ?_) #[true, true, true, true, false, false, false, false, false] rfl rfl (any_of HT_.out (by kernel_rfl)) (fun _ _ _ h => h) (Or.inl ⟨by rfl, ?_⟩) ?_ ?_
              rotate_left
              · intro w'
                go_simp
                with_reducible rfl
              rotate_left
              · simp only [Act.put, List.setIfInBounds_toArray, List.set_cons_zero, List.set_cons_succ, i64_w, i32_w]
                rfl
              refine pure_ (i := 4) (N := some 33) (v := undef) (a' := ?_) #[true, true, true, true, true, false, false, false, false] rfl rfl (any_of HT_.out (by kernel_rfl)) (fun _ _ _ h => h) (Or.inr ⟨by rfl, rfl⟩) ?_ ?_
              rotate_left
              · simp only [Act.put, List.setIfInBounds_toArray, List.set_cons_zero, List.set_cons_succ, i64_w, i32_w]
                rfl
              refine pure_ (i := 5) (N := some 34) (v := undef) (a' := ?_) #[true, true, true, true, true, true, false, false, false] rfl rfl (any_of HT_.out (by kernel_rfl)) (fun _ _ _ h => h) (Or.inr ⟨by rfl, rfl⟩) ?_ ?_
              rotate_left
              · simp only [Act.put, List.setIfInBounds_toArray, List.set_cons_zero, List.set_cons_succ, i64_w, i32_w]
                rfl
              refine pure_ (i := 6) (N := some 35) (v := undef) (a' := ?_) #[true, true, true, true, true, true, true, false, false] rfl rfl (any_of HT_.out (by kernel_rfl)) (fun _ _ _ h => h) (Or.inr ⟨by rfl, rfl⟩) ?_ ?_
              rotate_left
              · simp only [Act.put, List.setIfInBounds_toArray, List.set_cons_zero, List.set_cons_succ, i64_w, i32_w]
                rfl
              refine pure_ (i := 7) (N := some 36) (v := undef) (a' := ?_) #[true, true, true, true, true, true, true, true, false] rfl rfl (any_of HT_.out (by kernel_rfl)) (fun _ _ _ h => h) (Or.inr ⟨by rfl, rfl⟩) ?_ ?_
              rotate_left
              · simp only [Act.put, List.setIfInBounds_toArray, List.set_cons_zero, List.set_cons_succ, i64_w, i32_w]
                rfl
              refine pure_ (i := 8) (N := some 37) (v := ?_) (a' := ?_) #[true, true, true, true, true, true, true, true, true] rfl rfl (any_of HT_.out (by kernel_rfl)) (fun _ _ _ h => h) (Or.inl ⟨by rfl, ?_⟩) ?_ ?_
              rotate_left
              · intro w'
                go_simp
                with_reducible rfl
              rotate_left
              · simp only [Act.put, List.setIfInBounds_toArray, List.set_cons_zero, List.set_cons_succ, i64_w, i32_w]
                rfl
              refine done_ (done_of HT_.out (by kernel_rfl)) ?_
              try go_wp2
              go_meet
              case rel => exact ⟨_, (true), (by first | rfl | (simp; done) | (simp [*]; done)), H', ⟨by have := HJ8.out; first | omega | exact Nat.le_refl _⟩, ⟨by (with_reducible repeat (first | refine blk_drewN ?_ _ | refine blk_drew ?_ | refine blk_alloc ?_ _)); exact BK101.out⟩, ⟨by (with_reducible repeat (first | refine blk_drewN ?_ _ | refine blk_drew ?_ | refine blk_alloc ?_ _)); exact BK107.out⟩, ⟨by repeat (first | (with_reducible first | exact HB.out | apply below_alloc | apply pw_below_drewN | apply below_drew1 | refine below_set ?_ GE101.out | refine below_set ?_ GE107.out) | exact HB.out)⟩⟩
          case rest =>
            clear HC16
            try clear c1
            try clear c2
            try clear p2
            try clear c3
            try clear c8
            try clear c12
            try clear c12b0
            try clear c12b1
            try clear c13
            try clear c14
            try clear c15
            try clear c16
            try clear c19
            try clear c22
            try clear hcz13_0
            try clear hcz13_1
            try clear hcz13_2
            try clear hcz13_3
            try clear hcz20_0
            try clear hcz20_1
            try clear hcz20_2
            try clear hcz20_3
            try clear hfz13_0
            try clear hfz13_1
            try clear hfz13_2
            try clear hfz13_3
            try clear hfz20_0
            try clear hfz20_1
            try clear hfz20_2
            try clear hfz20_3
            try clear p2
            obtain ⟨kq, x37_15, rfl, HA, HJ15, BK101, BK107, HB⟩ := hcut
            cases kq with
            | zero => exact absurd HA.out (by simp [federationlaw1_ValRight.j1])
            | succ kj15 =>
              have H := HA.out
              clear HA
              simp only [federationlaw1_ValRight.j1] at H
              by_cases c31 : x37_15 = true
              · subst c31
                have H1 : (none) = some r := by rw [if_pos rfl] at H; exact H
                clear H
                have H := H1
                clear H1
                exact absurd H (by simp)
              · replace c31 := Bool.eq_false_iff.mpr c31
                subst c31
                have H1 : ((federationlaw1_within.f a4 4).bind fun t113 => (if t113 = 0 then ((some (([(-1), 0, 1, 2, 3, 4, 5, 6, a5] : List Int) : List Int)).bind fun y114 => ((federationlaw1_within.f a5 9).bind fun t117 => (if 0 ≤ t117 then (if t117 < (y114.length : Int) then (federationlaw1_ValRight.j2 kj15 a0_0 a0_1 a0_2 a0_3 (rd y114 t117) t104 t105 t106) else (none)) else (none)))) else (if t113 = 1 then ((some (([0, 1, 2, (-1), 10, 999999999999999, 1000000000000000, (-1000000000000000), a5] : List Int) : List Int)).bind fun y119 => ((federationlaw1_within.f a5 9).bind fun t122 => (if 0 ≤ t122 then (if t122 < (y119.length : Int) then (federationlaw1_ValRight.j2 kj15 a0_0 a0_1 a0_2 a0_3 t103 (rd y119 t122) t105 t106) else (none)) else (none)))) else (if t113 = 2 then ((some (([(-1), 0, 1, 6, 7, a5] : List Int) : List Int)).bind fun y124 => ((federationlaw1_within.f a5 6).bind fun t127 => (if 0 ≤ t127 then (if t127 < (y124.length : Int) then (federationlaw1_ValRight.j2 kj15 a0_0 a0_1 a0_2 a0_3 t103 t104 (rd y124 t127) t106) else (none)) else (none)))) else (if t113 = 3 then (if t106.size + a3.size ≤ 9223372036854775807 then (federationlaw1_ValRight.j2 kj15 a0_0 a0_1 a0_2 a0_3 t103 t104 t105 (t106 ++ a3)) else (none)) else (federationlaw1_ValRight.j2 kj15 a0_0 a0_1 a0_2 a0_3 t103 t104 t105 t106)))))) = some r := by rw [if_neg (show ¬ (false = true) by decide)] at H; exact H
                clear H
                have H := H1
                clear H1
                replace H := Option.bind_eq_some_iff.mp H
                obtain ⟨t113, A320, H⟩ := H
                replace H : (if t113 = 0 then ((some (([(-1), 0, 1, 2, 3, 4, 5, 6, a5] : List Int) : List Int)).bind fun y114 => ((federationlaw1_within.f a5 9).bind fun t117 => (if 0 ≤ t117 then (if t117 < (y114.length : Int) then (federationlaw1_ValRight.j2 kj15 a0_0 a0_1 a0_2 a0_3 (rd y114 t117) t104 t105 t106) else (none)) else (none)))) else (if t113 = 1 then ((some (([0, 1, 2, (-1), 10, 999999999999999, 1000000000000000, (-1000000000000000), a5] : List Int) : List Int)).bind fun y119 => ((federationlaw1_within.f a5 9).bind fun t122 => (if 0 ≤ t122 then (if t122 < (y119.length : Int) then (federationlaw1_ValRight.j2 kj15 a0_0 a0_1 a0_2 a0_3 t103 (rd y119 t122) t105 t106) else (none)) else (none)))) else (if t113 = 2 then ((some (([(-1), 0, 1, 6, 7, a5] : List Int) : List Int)).bind fun y124 => ((federationlaw1_within.f a5 6).bind fun t127 => (if 0 ≤ t127 then (if t127 < (y124.length : Int) then (federationlaw1_ValRight.j2 kj15 a0_0 a0_1 a0_2 a0_3 t103 t104 (rd y124 t127) t106) else (none)) else (none)))) else (if t113 = 3 then (if t106.size + a3.size ≤ 9223372036854775807 then (federationlaw1_ValRight.j2 kj15 a0_0 a0_1 a0_2 a0_3 t103 t104 t105 (t106 ++ a3)) else (none)) else (federationlaw1_ValRight.j2 kj15 a0_0 a0_1 a0_2 a0_3 t103 t104 t105 t106))))) = some r := H
                have A32 := Aside0.mk A320
                clear A320
                have HC33 := Aside0.mk H
                clear H
                go_upto_block 0 with (first | ((with_reducible refine gate_callee (f := 17) rfl ?_); refine goesL_ (some 39) rfl rfl Try.func17 (by kernel_rfl) rfl #[.int .i64 a4, .int .i64 4] rfl (by (try simp only [List.map_toArray, List.map_cons, List.map_nil]); first | done | rfl | (simp only [List.length_drop, List.length_take]; rfl)) ?_; (with_reducible refine (federationlaw1_within.calls a4 4 t113 _ A32.out).mono ?_); rintro e w' ⟨rfl, ⟨nd, rfl⟩⟩; refine ⟨_, rfl, ?_⟩))
                (try simp only [Act.put, List.setIfInBounds_toArray, List.set_cons_zero, List.set_cons_succ])
                go_cut [] (fun wc => ∃ (kq : Nat) (x108000_32 : Int) (x108001_32 : Int) (x108002_32 : Int) (x108003_32 : ByteArray), Aside0 (federationlaw1_ValRight.j2 kq a0_0 a0_1 a0_2 a0_3 x108000_32 x108001_32 x108002_32 x108003_32 = some r) ∧ Aside0 (kq ≤ kj15) ∧ Aside0 (wc.heap[gb101]? = some (.cells #[.int .i64 a0_0, .int .i64 a0_1, .int .i64 a0_2, .string a0_3] 23 (0, 0))) ∧ Aside0 (wc.heap[gb107]? = some (.cells #[.int .i64 x108000_32, .int .i64 x108001_32, .int .i64 x108002_32, .string x108003_32] 23 (0, 0))) ∧ Aside0 (Below w.heap.size w wc))
                case first =>
                  have H := HC33.out
                  clear HC33
                  by_cases c34 : t113 = 0
                  · rw [if_pos c34] at H
                    have c34b0 : (t113 == 0) = true := beq_iff_eq.mpr c34
                    have c34b1 : (t113 != 0) = false := bne_eq_false_iff_eq.mpr c34
                    clear c34
                    (first | rw [c34b0] | (simp only [i64_w, i32_w]; rw [c34b0]) | skip)
                    obtain ⟨y114, hy114⟩ : ∃ y_ : List Int, y_ = (([(-1), 0, 1, 2, 3, 4, 5, 6, a5] : List Int)) := ⟨_, rfl⟩
                    replace H : ((federationlaw1_within.f a5 9).bind fun t117 => (if 0 ≤ t117 then (if t117 < (y114.length : Int) then (federationlaw1_ValRight.j2 kj15 a0_0 a0_1 a0_2 a0_3 (rd y114 t117) t104 t105 t106) else (none)) else (none))) = some r := by first | (rw [hy114]; with_reducible exact H) | (have H2_ := (Option.bind_some _ _).symm.trans H; rw [hy114]; with_reducible exact H2_) | (have H2_ := (Option.bind_some _ _).symm.trans H; with_reducible exact H2_) | with_reducible exact H | (rw [hy114]; exact H) | exact H
                    have Ny114 := Aside0.mk hy114
                    clear hy114
                    replace H := Option.bind_eq_some_iff.mp H
                    obtain ⟨t117, A350, H⟩ := H
                    replace H : (if 0 ≤ t117 then (if t117 < (y114.length : Int) then (federationlaw1_ValRight.j2 kj15 a0_0 a0_1 a0_2 a0_3 (rd y114 t117) t104 t105 t106) else (none)) else (none)) = some r := H
                    have A35 := Aside0.mk A350
                    clear A350
                    by_cases c36 : 0 ≤ t117
                    · rw [if_pos c36] at H
                      have c36b0 : decide (0 ≤ t117) = true := decide_eq_true c36
                      clear c36
                      by_cases c37 : t117 < (y114.length : Int)
                      · rw [if_pos c37] at H
                        have c37b0 : decide (t117 < (y114.length : Int)) = true := decide_eq_true c37
                        clear c37
                        have H' := Aside0.mk H
                        clear H
                        go_wp2_with (first | ((with_reducible refine gate_dst (N := 43) rfl ?_); (try (refine gate_guard (by rfl) ?_; dsimp only)); refine Kd.R_lit (Kd.int .i64) _ 3 ?hg (N := 43) ?hd (xs := ([(-1), 0, 1, 2, 3, 4, 5, 6, a5] : List Int)) (inner := [.int .i64 (-1), .int .i64 0, .int .i64 1, .int .i64 2, .int .i64 3, .int .i64 4, .int .i64 5, .int .i64 6, .int .i64 a5]) (ok := fun _ => True) (okp := fun _ => True) ?hr ?hp (fun _ hk => hk) trivial (Below.refl _ _) (Nat.le_refl _) (by simp) ?_; (case hd => rfl); (case hg => rfl); (case hr => first | (go_simp; done) | (go_simp; rfl)); (case hp => exact (Reps.one (show Kd.M (Kd.int .i64) _ _ _ (-1) [.int .i64 (-1)] from rfl) (Reps.one (show Kd.M (Kd.int .i64) _ _ _ 0 [.int .i64 0] from rfl) (Reps.one (show Kd.M (Kd.int .i64) _ _ _ 1 [.int .i64 1] from rfl) (Reps.one (show Kd.M (Kd.int .i64) _ _ _ 2 [.int .i64 2] from rfl) (Reps.one (show Kd.M (Kd.int .i64) _ _ _ 3 [.int .i64 3] from rfl) (Reps.one (show Kd.M (Kd.int .i64) _ _ _ 4 [.int .i64 4] from rfl) (Reps.one (show Kd.M (Kd.int .i64) _ _ _ 5 [.int .i64 5] from rfl) (Reps.one (show Kd.M (Kd.int .i64) _ _ _ 6 [.int .i64 6] from rfl) (Reps.one (show Kd.M (Kd.int .i64) _ _ _ a5 [.int .i64 a5] from rfl) (Reps.none _ _))))))))))); intro v115 w38 ho39 hb hg_ hnew_; clear hg_ hnew_; (first | rw [← Ny114.out] at ho39 | (simp only [Int.reduceToNat] at ho39; rw [← Ny114.out] at ho39)); have n0_ := Aside0.mk (Kd.R_lower ho39 (below_size (by repeat (first | (with_reducible first | exact HB.out | apply below_alloc | apply pw_below_drewN | apply below_drew1 | refine below_set ?_ GE101.out | refine below_set ?_ GE107.out) | exact HB.out)))); have n1_ := Aside0.mk (blk_below (g := gb101) (o := .cells #[.int .i64 a0_0, .int .i64 a0_1, .int .i64 a0_2, .string a0_3] 23 (0, 0)) (by (with_reducible repeat (first | refine blk_drewN ?_ _ | refine blk_drew ?_ | refine blk_alloc ?_ _)); exact BK101.out) hb); have n2_ := Aside0.mk (blk_below (g := gb107) (o := .cells #[.int .i64 t103, .int .i64 t104, .int .i64 t105, .string t106] 23 (0, 0)) (by (with_reducible repeat (first | refine blk_drewN ?_ _ | refine blk_drew ?_ | refine blk_alloc ?_ _)); exact BK107.out) hb); have n3_ := Aside0.mk (below_step (by repeat (first | (with_reducible first | exact HB.out | apply below_alloc | apply pw_below_drewN | apply below_drew1 | refine below_set ?_ GE101.out | refine below_set ?_ GE107.out) | exact HB.out)) hb); clear BK101; clear BK107; clear HB; have HO116 := n0_; have BK101 := n1_; have BK107 := n2_; have HB := n3_; clear n0_ n1_ n2_ n3_; clear hb ho39) | ((with_reducible refine gate_callee (f := 17) rfl ?_); refine goesL_ (some 45) rfl rfl Try.func17 (by kernel_rfl) rfl #[.int .i64 a5, .int .i64 9] rfl (by (try simp only [List.map_toArray, List.map_cons, List.map_nil]); first | done | rfl | (simp only [List.length_drop, List.length_take]; rfl)) ?_; (with_reducible refine (federationlaw1_within.calls a5 9 t117 _ A35.out).mono ?_); rintro e w' ⟨rfl, ⟨nd, rfl⟩⟩; refine ⟨_, rfl, ?_⟩; (try (rw [drewN_self w38]; generalize hq_ : World.drewN w38 _ = w38; have n0_ : Aside0 (Kd.R (Kd.int .i64) 3 w38 w.heap.size (fun _ => True) v115 y114) := ⟨by rw [← hq_]; exact (by (with_reducible repeat (first | apply Kd.R_alloc | apply Kd.R_drewN | apply Kd.R_drew)); exact HO116.out)⟩; have n1_ : Aside0 (w38.heap[gb101]? = some (.cells #[.int .i64 a0_0, .int .i64 a0_1, .int .i64 a0_2, .string a0_3] 23 (0, 0))) := ⟨by rw [← hq_]; exact (by (with_reducible repeat (first | refine blk_drewN ?_ _ | refine blk_drew ?_ | refine blk_alloc ?_ _)); exact BK101.out)⟩; have n2_ : Aside0 (w38.heap[gb107]? = some (.cells #[.int .i64 t103, .int .i64 t104, .int .i64 t105, .string t106] 23 (0, 0))) := ⟨by rw [← hq_]; exact (by (with_reducible repeat (first | refine blk_drewN ?_ _ | refine blk_drew ?_ | refine blk_alloc ?_ _)); exact BK107.out)⟩; have n3_ : Aside0 (Below w.heap.size w w38) := ⟨by rw [← hq_]; exact (by repeat (first | (with_reducible first | exact HB.out | apply below_alloc | apply pw_below_drewN | apply below_drew1 | refine below_set ?_ GE101.out | refine below_set ?_ GE107.out) | exact HB.out))⟩; clear HO116 BK101 BK107 HB hq_; have HO116 := n0_; have BK101 := n1_; have BK107 := n2_; have HB := n3_; clear n0_ n1_ n2_ n3_)); (try have hcu40_0 : w38.cell? ⟨gb101, 0, none⟩ = some (.int .i64 a0_0) := (blk_cell BK101.out 0).trans rfl); (try have hcu40_1 : w38.cell? ⟨gb101, 1, none⟩ = some (.int .i64 a0_1) := (blk_cell BK101.out 1).trans rfl); (try have hcu40_2 : w38.cell? ⟨gb101, 2, none⟩ = some (.int .i64 a0_2) := (blk_cell BK101.out 2).trans rfl); (try have hcu40_3 : w38.cell? ⟨gb101, 3, none⟩ = some (.string a0_3) := (blk_cell BK101.out 3).trans rfl); (try have hfu40_0 := blk_frozen BK101.out 0); (try have hfu40_1 := blk_frozen BK101.out 1); (try have hfu40_2 := blk_frozen BK101.out 2); (try have hfu40_3 := blk_frozen BK101.out 3); (try have hcu41_0 : w38.cell? ⟨gb107, 0, none⟩ = some (.int .i64 t103) := (blk_cell BK107.out 0).trans rfl); (try have hcu41_1 : w38.cell? ⟨gb107, 1, none⟩ = some (.int .i64 t104) := (blk_cell BK107.out 1).trans rfl); (try have hcu41_2 : w38.cell? ⟨gb107, 2, none⟩ = some (.int .i64 t105) := (blk_cell BK107.out 2).trans rfl); (try have hcu41_3 : w38.cell? ⟨gb107, 3, none⟩ = some (.string t106) := (blk_cell BK107.out 3).trans rfl); (try have hfu41_0 := blk_frozen BK107.out 0); (try have hfu41_1 := blk_frozen BK107.out 1); (try have hfu41_2 := blk_frozen BK107.out 2); (try have hfu41_3 := blk_frozen BK107.out 3); obtain ⟨Ao42, co42, eo42⟩ := Kd.R_slice HO116.out; subst eo42; have p118 : 0 ≤ (t117 : Int) := of_decide_eq_true (by first | (with_reducible assumption) | assumption); have q118 : t117 < (y114.length : Int) := of_decide_eq_true (by first | (with_reducible assumption) | assumption); obtain ⟨ad118, e118, hx118_0⟩ := Kd.at_int (Kd.R_reads' HO116.out).2.2 t117 p118 q118; cases e118; replace p118 := eq_true p118; replace q118 := eq_true q118; have hnb43 := NB107_101.out; have hnc43 := NB101_107.out; have hcz44_0 : w38.cell? ⟨gb107, 0, none⟩ = some (.int .i64 t103) := (blk_cell BK107.out 0).trans rfl; have hcz44_1 : w38.cell? ⟨gb107, 1, none⟩ = some (.int .i64 t104) := (blk_cell BK107.out 1).trans rfl; have hcz44_2 : w38.cell? ⟨gb107, 2, none⟩ = some (.int .i64 t105) := (blk_cell BK107.out 2).trans rfl; have hcz44_3 : w38.cell? ⟨gb107, 3, none⟩ = some (.string t106) := (blk_cell BK107.out 3).trans rfl; have hfz44_0 := blk_frozen BK107.out 0; have hfz44_1 := blk_frozen BK107.out 1; have hfz44_2 := blk_frozen BK107.out 2; have hfz44_3 := blk_frozen BK107.out 3))
                        go_meet
                        case rel => exact ⟨_, (rd y114 t117), (t104), (t105), (t106), H', ⟨by have := HJ8.out; have := HJ15.out; first | omega | exact Nat.le_refl _⟩, ⟨by (with_reducible repeat (first | refine blk_drewN ?_ _ | refine blk_drew ?_ | refine blk_alloc ?_ _)); refine blk_far ?_ NB101_107.out _; (with_reducible repeat (first | refine blk_drewN ?_ _ | refine blk_drew ?_ | refine blk_alloc ?_ _)); exact BK101.out⟩, ⟨by (with_reducible repeat (first | refine blk_drewN ?_ _ | refine blk_drew ?_ | refine blk_alloc ?_ _)); refine blk_put (cs := #[.int .i64 t103, .int .i64 t104, .int .i64 t105, .string t106]) ?_ 0 _ rfl; (with_reducible repeat (first | refine blk_drewN ?_ _ | refine blk_drew ?_ | refine blk_alloc ?_ _)); exact BK107.out⟩, ⟨by repeat (first | (with_reducible first | exact HB.out | apply below_alloc | apply pw_below_drewN | apply below_drew1 | refine below_set ?_ GE101.out | refine below_set ?_ GE107.out) | exact HB.out)⟩⟩
                      · rw [if_neg c37] at H
                        exact absurd H (by simp)
                    · rw [if_neg c36] at H
                      exact absurd H (by simp)
                  · rw [if_neg c34] at H
                    have c34b0 : (t113 == 0) = false := beq_eq_false_iff_ne.mpr c34
                    have c34b1 : (t113 != 0) = true := bne_iff_ne.mpr c34
                    (first | rw [c34b0] | (simp only [i64_w, i32_w]; rw [c34b0]) | skip)
                    by_cases c45 : t113 = 1
                    · rw [if_pos c45] at H
                      have c45b0 : (t113 == 1) = true := beq_iff_eq.mpr c45
                      have c45b1 : (t113 != 1) = false := bne_eq_false_iff_eq.mpr c45
                      clear c45
                      obtain ⟨y119, hy119⟩ : ∃ y_ : List Int, y_ = (([0, 1, 2, (-1), 10, 999999999999999, 1000000000000000, (-1000000000000000), a5] : List Int)) := ⟨_, rfl⟩
                      replace H : ((federationlaw1_within.f a5 9).bind fun t122 => (if 0 ≤ t122 then (if t122 < (y119.length : Int) then (federationlaw1_ValRight.j2 kj15 a0_0 a0_1 a0_2 a0_3 t103 (rd y119 t122) t105 t106) else (none)) else (none))) = some r := by first | (rw [hy119]; with_reducible exact H) | (have H2_ := (Option.bind_some _ _).symm.trans H; rw [hy119]; with_reducible exact H2_) | (have H2_ := (Option.bind_some _ _).symm.trans H; with_reducible exact H2_) | with_reducible exact H | (rw [hy119]; exact H) | exact H
                      have Ny119 := Aside0.mk hy119
                      clear hy119
                      replace H := Option.bind_eq_some_iff.mp H
                      obtain ⟨t122, A460, H⟩ := H
                      replace H : (if 0 ≤ t122 then (if t122 < (y119.length : Int) then (federationlaw1_ValRight.j2 kj15 a0_0 a0_1 a0_2 a0_3 t103 (rd y119 t122) t105 t106) else (none)) else (none)) = some r := H
                      have A46 := Aside0.mk A460
                      clear A460
                      by_cases c47 : 0 ≤ t122
                      · rw [if_pos c47] at H
                        have c47b0 : decide (0 ≤ t122) = true := decide_eq_true c47
                        clear c47
                        by_cases c48 : t122 < (y119.length : Int)
                        · rw [if_pos c48] at H
                          have c48b0 : decide (t122 < (y119.length : Int)) = true := decide_eq_true c48
                          clear c48
                          have H' := Aside0.mk H
                          clear H
                          go_wp2_with (first | ((with_reducible refine gate_dst (N := 52) rfl ?_); (try (refine gate_guard (by rfl) ?_; dsimp only)); refine Kd.R_lit (Kd.int .i64) _ 3 ?hg (N := 52) ?hd (xs := ([0, 1, 2, (-1), 10, 999999999999999, 1000000000000000, (-1000000000000000), a5] : List Int)) (inner := [.int .i64 0, .int .i64 1, .int .i64 2, .int .i64 (-1), .int .i64 10, .int .i64 999999999999999, .int .i64 1000000000000000, .int .i64 (-1000000000000000), .int .i64 a5]) (ok := fun _ => True) (okp := fun _ => True) ?hr ?hp (fun _ hk => hk) trivial (Below.refl _ _) (Nat.le_refl _) (by simp) ?_; (case hd => rfl); (case hg => rfl); (case hr => first | (go_simp; done) | (go_simp; rfl)); (case hp => exact (Reps.one (show Kd.M (Kd.int .i64) _ _ _ 0 [.int .i64 0] from rfl) (Reps.one (show Kd.M (Kd.int .i64) _ _ _ 1 [.int .i64 1] from rfl) (Reps.one (show Kd.M (Kd.int .i64) _ _ _ 2 [.int .i64 2] from rfl) (Reps.one (show Kd.M (Kd.int .i64) _ _ _ (-1) [.int .i64 (-1)] from rfl) (Reps.one (show Kd.M (Kd.int .i64) _ _ _ 10 [.int .i64 10] from rfl) (Reps.one (show Kd.M (Kd.int .i64) _ _ _ 999999999999999 [.int .i64 999999999999999] from rfl) (Reps.one (show Kd.M (Kd.int .i64) _ _ _ 1000000000000000 [.int .i64 1000000000000000] from rfl) (Reps.one (show Kd.M (Kd.int .i64) _ _ _ (-1000000000000000) [.int .i64 (-1000000000000000)] from rfl) (Reps.one (show Kd.M (Kd.int .i64) _ _ _ a5 [.int .i64 a5] from rfl) (Reps.none _ _))))))))))); intro v120 w49 ho50 hb hg_ hnew_; clear hg_ hnew_; (first | rw [← Ny119.out] at ho50 | (simp only [Int.reduceToNat] at ho50; rw [← Ny119.out] at ho50)); have n0_ := Aside0.mk (Kd.R_lower ho50 (below_size (by repeat (first | (with_reducible first | exact HB.out | apply below_alloc | apply pw_below_drewN | apply below_drew1 | refine below_set ?_ GE101.out | refine below_set ?_ GE107.out) | exact HB.out)))); have n1_ := Aside0.mk (blk_below (g := gb101) (o := .cells #[.int .i64 a0_0, .int .i64 a0_1, .int .i64 a0_2, .string a0_3] 23 (0, 0)) (by (with_reducible repeat (first | refine blk_drewN ?_ _ | refine blk_drew ?_ | refine blk_alloc ?_ _)); exact BK101.out) hb); have n2_ := Aside0.mk (blk_below (g := gb107) (o := .cells #[.int .i64 t103, .int .i64 t104, .int .i64 t105, .string t106] 23 (0, 0)) (by (with_reducible repeat (first | refine blk_drewN ?_ _ | refine blk_drew ?_ | refine blk_alloc ?_ _)); exact BK107.out) hb); have n3_ := Aside0.mk (below_step (by repeat (first | (with_reducible first | exact HB.out | apply below_alloc | apply pw_below_drewN | apply below_drew1 | refine below_set ?_ GE101.out | refine below_set ?_ GE107.out) | exact HB.out)) hb); clear BK101; clear BK107; clear HB; have HO121 := n0_; have BK101 := n1_; have BK107 := n2_; have HB := n3_; clear n0_ n1_ n2_ n3_; clear hb ho50) | ((with_reducible refine gate_callee (f := 17) rfl ?_); refine goesL_ (some 54) rfl rfl Try.func17 (by kernel_rfl) rfl #[.int .i64 a5, .int .i64 9] rfl (by (try simp only [List.map_toArray, List.map_cons, List.map_nil]); first | done | rfl | (simp only [List.length_drop, List.length_take]; rfl)) ?_; (with_reducible refine (federationlaw1_within.calls a5 9 t122 _ A46.out).mono ?_); rintro e w' ⟨rfl, ⟨nd, rfl⟩⟩; refine ⟨_, rfl, ?_⟩; (try (rw [drewN_self w49]; generalize hq_ : World.drewN w49 _ = w49; have n0_ : Aside0 (Kd.R (Kd.int .i64) 3 w49 w.heap.size (fun _ => True) v120 y119) := ⟨by rw [← hq_]; exact (by (with_reducible repeat (first | apply Kd.R_alloc | apply Kd.R_drewN | apply Kd.R_drew)); exact HO121.out)⟩; have n1_ : Aside0 (w49.heap[gb101]? = some (.cells #[.int .i64 a0_0, .int .i64 a0_1, .int .i64 a0_2, .string a0_3] 23 (0, 0))) := ⟨by rw [← hq_]; exact (by (with_reducible repeat (first | refine blk_drewN ?_ _ | refine blk_drew ?_ | refine blk_alloc ?_ _)); exact BK101.out)⟩; have n2_ : Aside0 (w49.heap[gb107]? = some (.cells #[.int .i64 t103, .int .i64 t104, .int .i64 t105, .string t106] 23 (0, 0))) := ⟨by rw [← hq_]; exact (by (with_reducible repeat (first | refine blk_drewN ?_ _ | refine blk_drew ?_ | refine blk_alloc ?_ _)); exact BK107.out)⟩; have n3_ : Aside0 (Below w.heap.size w w49) := ⟨by rw [← hq_]; exact (by repeat (first | (with_reducible first | exact HB.out | apply below_alloc | apply pw_below_drewN | apply below_drew1 | refine below_set ?_ GE101.out | refine below_set ?_ GE107.out) | exact HB.out))⟩; clear HO121 BK101 BK107 HB hq_; have HO121 := n0_; have BK101 := n1_; have BK107 := n2_; have HB := n3_; clear n0_ n1_ n2_ n3_)); (try have hcu51_0 : w49.cell? ⟨gb101, 0, none⟩ = some (.int .i64 a0_0) := (blk_cell BK101.out 0).trans rfl); (try have hcu51_1 : w49.cell? ⟨gb101, 1, none⟩ = some (.int .i64 a0_1) := (blk_cell BK101.out 1).trans rfl); (try have hcu51_2 : w49.cell? ⟨gb101, 2, none⟩ = some (.int .i64 a0_2) := (blk_cell BK101.out 2).trans rfl); (try have hcu51_3 : w49.cell? ⟨gb101, 3, none⟩ = some (.string a0_3) := (blk_cell BK101.out 3).trans rfl); (try have hfu51_0 := blk_frozen BK101.out 0); (try have hfu51_1 := blk_frozen BK101.out 1); (try have hfu51_2 := blk_frozen BK101.out 2); (try have hfu51_3 := blk_frozen BK101.out 3); (try have hcu52_0 : w49.cell? ⟨gb107, 0, none⟩ = some (.int .i64 t103) := (blk_cell BK107.out 0).trans rfl); (try have hcu52_1 : w49.cell? ⟨gb107, 1, none⟩ = some (.int .i64 t104) := (blk_cell BK107.out 1).trans rfl); (try have hcu52_2 : w49.cell? ⟨gb107, 2, none⟩ = some (.int .i64 t105) := (blk_cell BK107.out 2).trans rfl); (try have hcu52_3 : w49.cell? ⟨gb107, 3, none⟩ = some (.string t106) := (blk_cell BK107.out 3).trans rfl); (try have hfu52_0 := blk_frozen BK107.out 0); (try have hfu52_1 := blk_frozen BK107.out 1); (try have hfu52_2 := blk_frozen BK107.out 2); (try have hfu52_3 := blk_frozen BK107.out 3); obtain ⟨Ao53, co53, eo53⟩ := Kd.R_slice HO121.out; subst eo53; have p123 : 0 ≤ (t122 : Int) := of_decide_eq_true (by first | (with_reducible assumption) | assumption); have q123 : t122 < (y119.length : Int) := of_decide_eq_true (by first | (with_reducible assumption) | assumption); obtain ⟨ad123, e123, hx123_0⟩ := Kd.at_int (Kd.R_reads' HO121.out).2.2 t122 p123 q123; cases e123; replace p123 := eq_true p123; replace q123 := eq_true q123; have hnb54 := NB107_101.out; have hnc54 := NB101_107.out; have hcz55_0 : w49.cell? ⟨gb107, 0, none⟩ = some (.int .i64 t103) := (blk_cell BK107.out 0).trans rfl; have hcz55_1 : w49.cell? ⟨gb107, 1, none⟩ = some (.int .i64 t104) := (blk_cell BK107.out 1).trans rfl; have hcz55_2 : w49.cell? ⟨gb107, 2, none⟩ = some (.int .i64 t105) := (blk_cell BK107.out 2).trans rfl; have hcz55_3 : w49.cell? ⟨gb107, 3, none⟩ = some (.string t106) := (blk_cell BK107.out 3).trans rfl; have hfz55_0 := blk_frozen BK107.out 0; have hfz55_1 := blk_frozen BK107.out 1; have hfz55_2 := blk_frozen BK107.out 2; have hfz55_3 := blk_frozen BK107.out 3))
                          go_meet
                          case rel => exact ⟨_, (t103), (rd y119 t122), (t105), (t106), H', ⟨by have := HJ8.out; have := HJ15.out; first | omega | exact Nat.le_refl _⟩, ⟨by (with_reducible repeat (first | refine blk_drewN ?_ _ | refine blk_drew ?_ | refine blk_alloc ?_ _)); refine blk_far ?_ NB101_107.out _; (with_reducible repeat (first | refine blk_drewN ?_ _ | refine blk_drew ?_ | refine blk_alloc ?_ _)); exact BK101.out⟩, ⟨by (with_reducible repeat (first | refine blk_drewN ?_ _ | refine blk_drew ?_ | refine blk_alloc ?_ _)); refine blk_put (cs := #[.int .i64 t103, .int .i64 t104, .int .i64 t105, .string t106]) ?_ 1 _ rfl; (with_reducible repeat (first | refine blk_drewN ?_ _ | refine blk_drew ?_ | refine blk_alloc ?_ _)); exact BK107.out⟩, ⟨by repeat (first | (with_reducible first | exact HB.out | apply below_alloc | apply pw_below_drewN | apply below_drew1 | refine below_set ?_ GE101.out | refine below_set ?_ GE107.out) | exact HB.out)⟩⟩
                        · rw [if_neg c48] at H
                          exact absurd H (by simp)
                      · rw [if_neg c47] at H
                        exact absurd H (by simp)
                    · rw [if_neg c45] at H
                      have c45b0 : (t113 == 1) = false := beq_eq_false_iff_ne.mpr c45
                      have c45b1 : (t113 != 1) = true := bne_iff_ne.mpr c45
                      by_cases c56 : t113 = 2
                      · rw [if_pos c56] at H
                        have c56b0 : (t113 == 2) = true := beq_iff_eq.mpr c56
                        have c56b1 : (t113 != 2) = false := bne_eq_false_iff_eq.mpr c56
                        clear c56
                        obtain ⟨y124, hy124⟩ : ∃ y_ : List Int, y_ = (([(-1), 0, 1, 6, 7, a5] : List Int)) := ⟨_, rfl⟩
                        replace H : ((federationlaw1_within.f a5 6).bind fun t127 => (if 0 ≤ t127 then (if t127 < (y124.length : Int) then (federationlaw1_ValRight.j2 kj15 a0_0 a0_1 a0_2 a0_3 t103 t104 (rd y124 t127) t106) else (none)) else (none))) = some r := by first | (rw [hy124]; with_reducible exact H) | (have H2_ := (Option.bind_some _ _).symm.trans H; rw [hy124]; with_reducible exact H2_) | (have H2_ := (Option.bind_some _ _).symm.trans H; with_reducible exact H2_) | with_reducible exact H | (rw [hy124]; exact H) | exact H
                        have Ny124 := Aside0.mk hy124
                        clear hy124
                        replace H := Option.bind_eq_some_iff.mp H
                        obtain ⟨t127, A570, H⟩ := H
                        replace H : (if 0 ≤ t127 then (if t127 < (y124.length : Int) then (federationlaw1_ValRight.j2 kj15 a0_0 a0_1 a0_2 a0_3 t103 t104 (rd y124 t127) t106) else (none)) else (none)) = some r := H
                        have A57 := Aside0.mk A570
                        clear A570
                        by_cases c58 : 0 ≤ t127
                        · rw [if_pos c58] at H
                          have c58b0 : decide (0 ≤ t127) = true := decide_eq_true c58
                          clear c58
                          by_cases c59 : t127 < (y124.length : Int)
                          · rw [if_pos c59] at H
                            have c59b0 : decide (t127 < (y124.length : Int)) = true := decide_eq_true c59
                            clear c59
                            have H' := Aside0.mk H
                            clear H
                            go_wp2_with (first | ((with_reducible refine gate_dst (N := 61) rfl ?_); (try (refine gate_guard (by rfl) ?_; dsimp only)); refine Kd.R_lit (Kd.int .i64) _ 3 ?hg (N := 61) ?hd (xs := ([(-1), 0, 1, 6, 7, a5] : List Int)) (inner := [.int .i64 (-1), .int .i64 0, .int .i64 1, .int .i64 6, .int .i64 7, .int .i64 a5]) (ok := fun _ => True) (okp := fun _ => True) ?hr ?hp (fun _ hk => hk) trivial (Below.refl _ _) (Nat.le_refl _) (by simp) ?_; (case hd => rfl); (case hg => rfl); (case hr => first | (go_simp; done) | (go_simp; rfl)); (case hp => exact (Reps.one (show Kd.M (Kd.int .i64) _ _ _ (-1) [.int .i64 (-1)] from rfl) (Reps.one (show Kd.M (Kd.int .i64) _ _ _ 0 [.int .i64 0] from rfl) (Reps.one (show Kd.M (Kd.int .i64) _ _ _ 1 [.int .i64 1] from rfl) (Reps.one (show Kd.M (Kd.int .i64) _ _ _ 6 [.int .i64 6] from rfl) (Reps.one (show Kd.M (Kd.int .i64) _ _ _ 7 [.int .i64 7] from rfl) (Reps.one (show Kd.M (Kd.int .i64) _ _ _ a5 [.int .i64 a5] from rfl) (Reps.none _ _)))))))); intro v125 w60 ho61 hb hg_ hnew_; clear hg_ hnew_; (first | rw [← Ny124.out] at ho61 | (simp only [Int.reduceToNat] at ho61; rw [← Ny124.out] at ho61)); have n0_ := Aside0.mk (Kd.R_lower ho61 (below_size (by repeat (first | (with_reducible first | exact HB.out | apply below_alloc | apply pw_below_drewN | apply below_drew1 | refine below_set ?_ GE101.out | refine below_set ?_ GE107.out) | exact HB.out)))); have n1_ := Aside0.mk (blk_below (g := gb101) (o := .cells #[.int .i64 a0_0, .int .i64 a0_1, .int .i64 a0_2, .string a0_3] 23 (0, 0)) (by (with_reducible repeat (first | refine blk_drewN ?_ _ | refine blk_drew ?_ | refine blk_alloc ?_ _)); exact BK101.out) hb); have n2_ := Aside0.mk (blk_below (g := gb107) (o := .cells #[.int .i64 t103, .int .i64 t104, .int .i64 t105, .string t106] 23 (0, 0)) (by (with_reducible repeat (first | refine blk_drewN ?_ _ | refine blk_drew ?_ | refine blk_alloc ?_ _)); exact BK107.out) hb); have n3_ := Aside0.mk (below_step (by repeat (first | (with_reducible first | exact HB.out | apply below_alloc | apply pw_below_drewN | apply below_drew1 | refine below_set ?_ GE101.out | refine below_set ?_ GE107.out) | exact HB.out)) hb); clear BK101; clear BK107; clear HB; have HO126 := n0_; have BK101 := n1_; have BK107 := n2_; have HB := n3_; clear n0_ n1_ n2_ n3_; clear hb ho61) | ((with_reducible refine gate_callee (f := 17) rfl ?_); refine goesL_ (some 63) rfl rfl Try.func17 (by kernel_rfl) rfl #[.int .i64 a5, .int .i64 6] rfl (by (try simp only [List.map_toArray, List.map_cons, List.map_nil]); first | done | rfl | (simp only [List.length_drop, List.length_take]; rfl)) ?_; (with_reducible refine (federationlaw1_within.calls a5 6 t127 _ A57.out).mono ?_); rintro e w' ⟨rfl, ⟨nd, rfl⟩⟩; refine ⟨_, rfl, ?_⟩; (try (rw [drewN_self w60]; generalize hq_ : World.drewN w60 _ = w60; have n0_ : Aside0 (Kd.R (Kd.int .i64) 3 w60 w.heap.size (fun _ => True) v125 y124) := ⟨by rw [← hq_]; exact (by (with_reducible repeat (first | apply Kd.R_alloc | apply Kd.R_drewN | apply Kd.R_drew)); exact HO126.out)⟩; have n1_ : Aside0 (w60.heap[gb101]? = some (.cells #[.int .i64 a0_0, .int .i64 a0_1, .int .i64 a0_2, .string a0_3] 23 (0, 0))) := ⟨by rw [← hq_]; exact (by (with_reducible repeat (first | refine blk_drewN ?_ _ | refine blk_drew ?_ | refine blk_alloc ?_ _)); exact BK101.out)⟩; have n2_ : Aside0 (w60.heap[gb107]? = some (.cells #[.int .i64 t103, .int .i64 t104, .int .i64 t105, .string t106] 23 (0, 0))) := ⟨by rw [← hq_]; exact (by (with_reducible repeat (first | refine blk_drewN ?_ _ | refine blk_drew ?_ | refine blk_alloc ?_ _)); exact BK107.out)⟩; have n3_ : Aside0 (Below w.heap.size w w60) := ⟨by rw [← hq_]; exact (by repeat (first | (with_reducible first | exact HB.out | apply below_alloc | apply pw_below_drewN | apply below_drew1 | refine below_set ?_ GE101.out | refine below_set ?_ GE107.out) | exact HB.out))⟩; clear HO126 BK101 BK107 HB hq_; have HO126 := n0_; have BK101 := n1_; have BK107 := n2_; have HB := n3_; clear n0_ n1_ n2_ n3_)); (try have hcu62_0 : w60.cell? ⟨gb101, 0, none⟩ = some (.int .i64 a0_0) := (blk_cell BK101.out 0).trans rfl); (try have hcu62_1 : w60.cell? ⟨gb101, 1, none⟩ = some (.int .i64 a0_1) := (blk_cell BK101.out 1).trans rfl); (try have hcu62_2 : w60.cell? ⟨gb101, 2, none⟩ = some (.int .i64 a0_2) := (blk_cell BK101.out 2).trans rfl); (try have hcu62_3 : w60.cell? ⟨gb101, 3, none⟩ = some (.string a0_3) := (blk_cell BK101.out 3).trans rfl); (try have hfu62_0 := blk_frozen BK101.out 0); (try have hfu62_1 := blk_frozen BK101.out 1); (try have hfu62_2 := blk_frozen BK101.out 2); (try have hfu62_3 := blk_frozen BK101.out 3); (try have hcu63_0 : w60.cell? ⟨gb107, 0, none⟩ = some (.int .i64 t103) := (blk_cell BK107.out 0).trans rfl); (try have hcu63_1 : w60.cell? ⟨gb107, 1, none⟩ = some (.int .i64 t104) := (blk_cell BK107.out 1).trans rfl); (try have hcu63_2 : w60.cell? ⟨gb107, 2, none⟩ = some (.int .i64 t105) := (blk_cell BK107.out 2).trans rfl); (try have hcu63_3 : w60.cell? ⟨gb107, 3, none⟩ = some (.string t106) := (blk_cell BK107.out 3).trans rfl); (try have hfu63_0 := blk_frozen BK107.out 0); (try have hfu63_1 := blk_frozen BK107.out 1); (try have hfu63_2 := blk_frozen BK107.out 2); (try have hfu63_3 := blk_frozen BK107.out 3); obtain ⟨Ao64, co64, eo64⟩ := Kd.R_slice HO126.out; subst eo64; have p128 : 0 ≤ (t127 : Int) := of_decide_eq_true (by first | (with_reducible assumption) | assumption); have q128 : t127 < (y124.length : Int) := of_decide_eq_true (by first | (with_reducible assumption) | assumption); obtain ⟨ad128, e128, hx128_0⟩ := Kd.at_int (Kd.R_reads' HO126.out).2.2 t127 p128 q128; cases e128; replace p128 := eq_true p128; replace q128 := eq_true q128; have hnb65 := NB107_101.out; have hnc65 := NB101_107.out; have hcz66_0 : w60.cell? ⟨gb107, 0, none⟩ = some (.int .i64 t103) := (blk_cell BK107.out 0).trans rfl; have hcz66_1 : w60.cell? ⟨gb107, 1, none⟩ = some (.int .i64 t104) := (blk_cell BK107.out 1).trans rfl; have hcz66_2 : w60.cell? ⟨gb107, 2, none⟩ = some (.int .i64 t105) := (blk_cell BK107.out 2).trans rfl; have hcz66_3 : w60.cell? ⟨gb107, 3, none⟩ = some (.string t106) := (blk_cell BK107.out 3).trans rfl; have hfz66_0 := blk_frozen BK107.out 0; have hfz66_1 := blk_frozen BK107.out 1; have hfz66_2 := blk_frozen BK107.out 2; have hfz66_3 := blk_frozen BK107.out 3))
                            go_meet
                            case rel => exact ⟨_, (t103), (t104), (rd y124 t127), (t106), H', ⟨by have := HJ8.out; have := HJ15.out; first | omega | exact Nat.le_refl _⟩, ⟨by (with_reducible repeat (first | refine blk_drewN ?_ _ | refine blk_drew ?_ | refine blk_alloc ?_ _)); refine blk_far ?_ NB101_107.out _; (with_reducible repeat (first | refine blk_drewN ?_ _ | refine blk_drew ?_ | refine blk_alloc ?_ _)); exact BK101.out⟩, ⟨by (with_reducible repeat (first | refine blk_drewN ?_ _ | refine blk_drew ?_ | refine blk_alloc ?_ _)); refine blk_put (cs := #[.int .i64 t103, .int .i64 t104, .int .i64 t105, .string t106]) ?_ 2 _ rfl; (with_reducible repeat (first | refine blk_drewN ?_ _ | refine blk_drew ?_ | refine blk_alloc ?_ _)); exact BK107.out⟩, ⟨by repeat (first | (with_reducible first | exact HB.out | apply below_alloc | apply pw_below_drewN | apply below_drew1 | refine below_set ?_ GE101.out | refine below_set ?_ GE107.out) | exact HB.out)⟩⟩
                          · rw [if_neg c59] at H
                            exact absurd H (by simp)
                        · rw [if_neg c58] at H
                          exact absurd H (by simp)
                      · rw [if_neg c56] at H
                        have c56b0 : (t113 == 2) = false := beq_eq_false_iff_ne.mpr c56
                        have c56b1 : (t113 != 2) = true := bne_iff_ne.mpr c56
                        by_cases c67 : t113 = 3
                        · rw [if_pos c67] at H
                          have c67b0 : (t113 == 3) = true := beq_iff_eq.mpr c67
                          have c67b1 : (t113 != 3) = false := bne_eq_false_iff_eq.mpr c67
                          clear c67
                          by_cases c68 : t106.size + a3.size ≤ 9223372036854775807
                          · rw [if_pos c68] at H
                            have c68b0 := eq_true c68
                            have c68b1 : decide (t106.size + a3.size ≤ 9223372036854775807) = true := decide_eq_true c68
                            try have c68b2 : (9223372036854775807 < t106.size + a3.size) = False := eq_false (Nat.not_lt.2 c68)
                            have H' := Aside0.mk H
                            clear H
                            have hnb69 := NB107_101.out
                            have hnc69 := NB101_107.out
                            have hcz70_0 : wc.cell? ⟨gb107, 0, none⟩ = some (.int .i64 t103) := (blk_cell BK107.out 0).trans rfl
                            have hcz70_1 : wc.cell? ⟨gb107, 1, none⟩ = some (.int .i64 t104) := (blk_cell BK107.out 1).trans rfl
                            have hcz70_2 : wc.cell? ⟨gb107, 2, none⟩ = some (.int .i64 t105) := (blk_cell BK107.out 2).trans rfl
                            have hcz70_3 : wc.cell? ⟨gb107, 3, none⟩ = some (.string t106) := (blk_cell BK107.out 3).trans rfl
                            have hfz70_0 := blk_frozen BK107.out 0
                            have hfz70_1 := blk_frozen BK107.out 1
                            have hfz70_2 := blk_frozen BK107.out 2
                            have hfz70_3 := blk_frozen BK107.out 3
                            go_wp2
                            go_meet
                            case rel => exact ⟨_, (t103), (t104), (t105), (t106 ++ a3), H', ⟨by have := HJ8.out; have := HJ15.out; first | omega | exact Nat.le_refl _⟩, ⟨by (with_reducible repeat (first | refine blk_drewN ?_ _ | refine blk_drew ?_ | refine blk_alloc ?_ _)); refine blk_far ?_ NB101_107.out _; (with_reducible repeat (first | refine blk_drewN ?_ _ | refine blk_drew ?_ | refine blk_alloc ?_ _)); exact BK101.out⟩, ⟨by (with_reducible repeat (first | refine blk_drewN ?_ _ | refine blk_drew ?_ | refine blk_alloc ?_ _)); refine blk_put (cs := #[.int .i64 t103, .int .i64 t104, .int .i64 t105, .string t106]) ?_ 3 _ rfl; (with_reducible repeat (first | refine blk_drewN ?_ _ | refine blk_drew ?_ | refine blk_alloc ?_ _)); exact BK107.out⟩, ⟨by repeat (first | (with_reducible first | exact HB.out | apply below_alloc | apply pw_below_drewN | apply below_drew1 | refine below_set ?_ GE101.out | refine below_set ?_ GE107.out) | exact HB.out)⟩⟩
                          · rw [if_neg c68] at H
                            exact absurd H (by simp)
                        · rw [if_neg c67] at H
                          have c67b0 : (t113 == 3) = false := beq_eq_false_iff_ne.mpr c67
                          have c67b1 : (t113 != 3) = true := bne_iff_ne.mpr c67
                          have H' := Aside0.mk H
                          clear H
                          go_wp2
                          go_meet
                          case rel => exact ⟨_, (t103), (t104), (t105), (t106), H', ⟨by have := HJ8.out; have := HJ15.out; first | omega | exact Nat.le_refl _⟩, ⟨by (with_reducible repeat (first | refine blk_drewN ?_ _ | refine blk_drew ?_ | refine blk_alloc ?_ _)); exact BK101.out⟩, ⟨by (with_reducible repeat (first | refine blk_drewN ?_ _ | refine blk_drew ?_ | refine blk_alloc ?_ _)); exact BK107.out⟩, ⟨by repeat (first | (with_reducible first | exact HB.out | apply below_alloc | apply pw_below_drewN | apply below_drew1 | refine below_set ?_ GE101.out | refine below_set ?_ GE107.out) | exact HB.out)⟩⟩
                case rest =>
                  clear HC33
                  try clear c1
                  try clear p1
                  try clear q1
                  try clear hx1
                  try clear c2
                  try clear p2
                  try clear c3
                  try clear c4
                  try clear c5
                  try clear c6
                  try clear c8
                  try clear p11
                  try clear q11
                  try clear hx11
                  try clear c12
                  try clear c12b0
                  try clear c12b1
                  try clear p12
                  try clear q12
                  try clear hx12
                  try clear c13
                  try clear c14
                  try clear c15
                  try clear c16
                  try clear c17
                  try clear c19
                  try clear c22
                  try clear c31
                  try clear c34
                  try clear c34b0
                  try clear c34b1
                  try clear c36
                  try clear c36b0
                  try clear c37
                  try clear c37b0
                  try clear c43
                  try clear c45
                  try clear c45b0
                  try clear c45b1
                  try clear c47
                  try clear c47b0
                  try clear c48
                  try clear c48b0
                  try clear c54
                  try clear c56
                  try clear c56b0
                  try clear c56b1
                  try clear c58
                  try clear c58b0
                  try clear c59
                  try clear c59b0
                  try clear c65
                  try clear c67
                  try clear c67b0
                  try clear c67b1
                  try clear c68
                  try clear c68b0
                  try clear c68b1
                  try clear c68b2
                  try clear c69
                  try clear hcz13_0
                  try clear hcz13_1
                  try clear hcz13_2
                  try clear hcz13_3
                  try clear hcz20_0
                  try clear hcz20_1
                  try clear hcz20_2
                  try clear hcz20_3
                  try clear hcz44_0
                  try clear hcz44_1
                  try clear hcz44_2
                  try clear hcz44_3
                  try clear hcz55_0
                  try clear hcz55_1
                  try clear hcz55_2
                  try clear hcz55_3
                  try clear hcz66_0
                  try clear hcz66_1
                  try clear hcz66_2
                  try clear hcz66_3
                  try clear hcz70_0
                  try clear hcz70_1
                  try clear hcz70_2
                  try clear hcz70_3
                  try clear hfz13_0
                  try clear hfz13_1
                  try clear hfz13_2
                  try clear hfz13_3
                  try clear hfz20_0
                  try clear hfz20_1
                  try clear hfz20_2
                  try clear hfz20_3
                  try clear hfz44_0
                  try clear hfz44_1
                  try clear hfz44_2
                  try clear hfz44_3
                  try clear hfz55_0
                  try clear hfz55_1
                  try clear hfz55_2
                  try clear hfz55_3
                  try clear hfz66_0
                  try clear hfz66_1
                  try clear hfz66_2
                  try clear hfz66_3
                  try clear hfz70_0
                  try clear hfz70_1
                  try clear hfz70_2
                  try clear hfz70_3
                  try clear hx118_0
                  try clear hx123_0
                  try clear hx128_0
                  try clear p118
                  try clear p123
                  try clear p128
                  try clear p2
                  try clear q118
                  try clear q123
                  try clear q128
                  obtain ⟨kq, x108000_32, x108001_32, x108002_32, x108003_32, HA, HJ32, BK101, BK107, HB⟩ := hcut
                  cases kq with
                  | zero => exact absurd HA.out (by simp [federationlaw1_ValRight.j2])
                  | succ kj32 =>
                    have H := HA.out
                    clear HA
                    simp only [federationlaw1_ValRight.j2] at H
                    replace H := Option.bind_eq_some_iff.mp H
                    obtain ⟨t129, A710, H⟩ := H
                    replace H : ((federationref1_Right.f kj32 x108000_32 x108001_32 x108002_32 x108003_32).bind fun t130 => (if (t129 == t130) = true then ((val_Right.f kj32 a0_0 a0_1 a0_2 a0_3).bind fun t131 => ((federationref1_Right.f kj32 a0_0 a0_1 a0_2 a0_3).bind fun t132 => (if (t131 == t132) = true then ((val_Norm.f kj32 x108000_32 x108001_32 x108002_32 x108003_32).bind fun bt133 => ((federationref1_Norm.f kj32 x108000_32 x108001_32 x108002_32 x108003_32).bind fun bt137 => (if (bt133.1 == bt137.1 && (bt133.2.1 == bt137.2.1 && (bt133.2.2.1 == bt137.2.2.1 && (bt133.2.2.2.toList == bt137.2.2.2.toList)))) = true then ((val_Norm.f kj32 a0_0 a0_1 a0_2 a0_3).bind fun bt141 => ((federationref1_Norm.f kj32 a0_0 a0_1 a0_2 a0_3).bind fun bt145 => (some (bt141.1 == bt145.1 && (bt141.2.1 == bt145.2.1 && (bt141.2.2.1 == bt145.2.2.1 && (bt141.2.2.2.toList == bt145.2.2.2.toList))))))) else (none)))) else (none)))) else (none))) = some r := H
                    have A71 := Aside0.mk A710
                    clear A710
                    replace H := Option.bind_eq_some_iff.mp H
                    obtain ⟨t130, A720, H⟩ := H
                    replace H : (if (t129 == t130) = true then ((val_Right.f kj32 a0_0 a0_1 a0_2 a0_3).bind fun t131 => ((federationref1_Right.f kj32 a0_0 a0_1 a0_2 a0_3).bind fun t132 => (if (t131 == t132) = true then ((val_Norm.f kj32 x108000_32 x108001_32 x108002_32 x108003_32).bind fun bt133 => ((federationref1_Norm.f kj32 x108000_32 x108001_32 x108002_32 x108003_32).bind fun bt137 => (if (bt133.1 == bt137.1 && (bt133.2.1 == bt137.2.1 && (bt133.2.2.1 == bt137.2.2.1 && (bt133.2.2.2.toList == bt137.2.2.2.toList)))) = true then ((val_Norm.f kj32 a0_0 a0_1 a0_2 a0_3).bind fun bt141 => ((federationref1_Norm.f kj32 a0_0 a0_1 a0_2 a0_3).bind fun bt145 => (some (bt141.1 == bt145.1 && (bt141.2.1 == bt145.2.1 && (bt141.2.2.1 == bt145.2.2.1 && (bt141.2.2.2.toList == bt145.2.2.2.toList))))))) else (none)))) else (none)))) else (none)) = some r := H
                    have A72 := Aside0.mk A720
                    clear A720
                    by_cases c73 : (t129 == t130) = true
                    · rw [if_pos c73] at H
                      have c73b0 : (t129 == t130) = true := c73
                      (try (have c73b1 : decide (t129 = t130) = true := by simpa using c73))
                      (try (have c73b2 : (t129 == t130) = true := by simpa using c73))
                      clear c73
                      replace H := Option.bind_eq_some_iff.mp H
                      obtain ⟨t131, A740, H⟩ := H
                      replace H : ((federationref1_Right.f kj32 a0_0 a0_1 a0_2 a0_3).bind fun t132 => (if (t131 == t132) = true then ((val_Norm.f kj32 x108000_32 x108001_32 x108002_32 x108003_32).bind fun bt133 => ((federationref1_Norm.f kj32 x108000_32 x108001_32 x108002_32 x108003_32).bind fun bt137 => (if (bt133.1 == bt137.1 && (bt133.2.1 == bt137.2.1 && (bt133.2.2.1 == bt137.2.2.1 && (bt133.2.2.2.toList == bt137.2.2.2.toList)))) = true then ((val_Norm.f kj32 a0_0 a0_1 a0_2 a0_3).bind fun bt141 => ((federationref1_Norm.f kj32 a0_0 a0_1 a0_2 a0_3).bind fun bt145 => (some (bt141.1 == bt145.1 && (bt141.2.1 == bt145.2.1 && (bt141.2.2.1 == bt145.2.2.1 && (bt141.2.2.2.toList == bt145.2.2.2.toList))))))) else (none)))) else (none))) = some r := H
                      have A74 := Aside0.mk A740
                      clear A740
                      replace H := Option.bind_eq_some_iff.mp H
                      obtain ⟨t132, A750, H⟩ := H
                      replace H : (if (t131 == t132) = true then ((val_Norm.f kj32 x108000_32 x108001_32 x108002_32 x108003_32).bind fun bt133 => ((federationref1_Norm.f kj32 x108000_32 x108001_32 x108002_32 x108003_32).bind fun bt137 => (if (bt133.1 == bt137.1 && (bt133.2.1 == bt137.2.1 && (bt133.2.2.1 == bt137.2.2.1 && (bt133.2.2.2.toList == bt137.2.2.2.toList)))) = true then ((val_Norm.f kj32 a0_0 a0_1 a0_2 a0_3).bind fun bt141 => ((federationref1_Norm.f kj32 a0_0 a0_1 a0_2 a0_3).bind fun bt145 => (some (bt141.1 == bt145.1 && (bt141.2.1 == bt145.2.1 && (bt141.2.2.1 == bt145.2.2.1 && (bt141.2.2.2.toList == bt145.2.2.2.toList))))))) else (none)))) else (none)) = some r := H
                      have A75 := Aside0.mk A750
                      clear A750
                      by_cases c76 : (t131 == t132) = true
                      · rw [if_pos c76] at H
                        have c76b0 : (t131 == t132) = true := c76
                        (try (have c76b1 : decide (t131 = t132) = true := by simpa using c76))
                        (try (have c76b2 : (t131 == t132) = true := by simpa using c76))
                        clear c76
                        replace H := Option.bind_eq_some_iff.mp H
                        obtain ⟨⟨t133, t134, t135, t136⟩, A770, H⟩ := H
                        replace H : ((federationref1_Norm.f kj32 x108000_32 x108001_32 x108002_32 x108003_32).bind fun bt137 => (if (t133 == bt137.1 && (t134 == bt137.2.1 && (t135 == bt137.2.2.1 && (t136.toList == bt137.2.2.2.toList)))) = true then ((val_Norm.f kj32 a0_0 a0_1 a0_2 a0_3).bind fun bt141 => ((federationref1_Norm.f kj32 a0_0 a0_1 a0_2 a0_3).bind fun bt145 => (some (bt141.1 == bt145.1 && (bt141.2.1 == bt145.2.1 && (bt141.2.2.1 == bt145.2.2.1 && (bt141.2.2.2.toList == bt145.2.2.2.toList))))))) else (none))) = some r := H
                        have A77 := Aside0.mk A770
                        clear A770
                        replace H := Option.bind_eq_some_iff.mp H
                        obtain ⟨⟨t137, t138, t139, t140⟩, A780, H⟩ := H
                        replace H : (if (t133 == t137 && (t134 == t138 && (t135 == t139 && (t136.toList == t140.toList)))) = true then ((val_Norm.f kj32 a0_0 a0_1 a0_2 a0_3).bind fun bt141 => ((federationref1_Norm.f kj32 a0_0 a0_1 a0_2 a0_3).bind fun bt145 => (some (bt141.1 == bt145.1 && (bt141.2.1 == bt145.2.1 && (bt141.2.2.1 == bt145.2.2.1 && (bt141.2.2.2.toList == bt145.2.2.2.toList))))))) else (none)) = some r := H
                        have A78 := Aside0.mk A780
                        clear A780
                        by_cases c79 : (t133 == t137 && (t134 == t138 && (t135 == t139 && (t136.toList == t140.toList)))) = true
                        · rw [if_pos c79] at H
                          have c79b0 : (t133 == t137 && (t134 == t138 && (t135 == t139 && (t136.toList == t140.toList)))) = true := c79
                          (try (have c79b1 : decide (t133 = t137 && (t134 == t138 && (t135 == t139 && (t136.toList == t140.toList)))) = true := by simpa using c79))
                          (try (have c79b2 : (t133 == t137 && (t134 == t138 && (t135 == t139 && (t136.toList == t140.toList)))) = true := by simpa using c79))
                          clear c79
                          replace H := Option.bind_eq_some_iff.mp H
                          obtain ⟨⟨t141, t142, t143, t144⟩, A800, H⟩ := H
                          replace H : ((federationref1_Norm.f kj32 a0_0 a0_1 a0_2 a0_3).bind fun bt145 => (some (t141 == bt145.1 && (t142 == bt145.2.1 && (t143 == bt145.2.2.1 && (t144.toList == bt145.2.2.2.toList)))))) = some r := H
                          have A80 := Aside0.mk A800
                          clear A800
                          replace H := Option.bind_eq_some_iff.mp H
                          obtain ⟨⟨t145, t146, t147, t148⟩, A810, H⟩ := H
                          replace H : (some (t141 == t145 && (t142 == t146 && (t143 == t147 && (t144.toList == t148.toList))))) = some r := H
                          have A81 := Aside0.mk A810
                          clear A810
                          obtain rfl := Option.some.inj H
                          try go_wp2
                          have n0_ := Aside0.mk (blk_drew BK101.out)
                          have n1_ := Aside0.mk (blk_drew BK107.out)
                          have n2_ := Aside0.mk (below_drew1 HB.out)
                          clear BK101
                          clear BK107
                          clear HB
                          have BK101 := n0_
                          have BK107 := n1_
                          have HB := n2_
                          clear n0_ n1_ n2_
                          refine start_ (n := 27) (S := fun w' => w'.cell? ⟨gb107, 0, none⟩ = some (.int .i64 x108000_32) ∧ w'.cell? ⟨gb107, 1, none⟩ = some (.int .i64 x108001_32) ∧ w'.cell? ⟨gb107, 2, none⟩ = some (.int .i64 x108002_32) ∧ w'.cell? ⟨gb107, 3, none⟩ = some (.string x108003_32) ∧ w'.cell? ⟨gb101, 0, none⟩ = some (.int .i64 a0_0) ∧ w'.cell? ⟨gb101, 1, none⟩ = some (.int .i64 a0_1) ∧ w'.cell? ⟨gb101, 2, none⟩ = some (.int .i64 a0_2) ∧ w'.cell? ⟨gb101, 3, none⟩ = some (.string a0_3)) (ds := []) #[false, false, false, false, false, false, false, false, false, false, false, false, false, false, false, false, false, false, false, false, false, false, false, false, false, false, false] (by kernel_rfl) rfl rfl ⟨(blk_cell BK107.out 0).trans rfl, (blk_cell BK107.out 1).trans rfl, (blk_cell BK107.out 2).trans rfl, (blk_cell BK107.out 3).trans rfl, (blk_cell BK101.out 0).trans rfl, (blk_cell BK101.out 1).trans rfl, (blk_cell BK101.out 2).trans rfl, (blk_cell BK101.out 3).trans rfl⟩ (fun hHeld => ?_); refine with_tabW federationlaw1_ValRight.tab17 federationlaw1_ValRight.bits17 (fun HT_ HW_ => ?_)
                          generalize wc.drew = w82 at BK101 BK107 HB hHeld ⊢
                          refine take_ (i := 0) (N := some 74) (v := ?_) (a' := ?_) #[true, false, false, false, false, false, false, false, false, false, false, false, false, false, false, false, false, false, false, false, false, false, false, false, false, false, false] rfl rfl (take_ofW HT_.out HW_.out (by kernel_rfl)) (fun _ _ _ h => h) (Or.inl ⟨by rfl, ?_⟩) hHeld ?_ ?_
                          rotate_left
                          · rintro w' ⟨s0, s1, s2, s3, s4, s5, s6, s7⟩
                            go_simp
                            with_reducible rfl
                          rotate_left
                          · simp only [Act.put, List.setIfInBounds_toArray, List.set_cons_zero, List.set_cons_succ, i64_w, i32_w]
                            rfl
                          refine take_ (i := 2) (N := some 76) (v := ?_) (a' := ?_) #[true, false, true, false, false, false, false, false, false, false, false, false, false, false, false, false, false, false, false, false, false, false, false, false, false, false, false] rfl rfl (take_ofW HT_.out HW_.out (by kernel_rfl)) (fun _ _ _ h => h) (Or.inl ⟨by rfl, ?_⟩) hHeld ?_ ?_
                          rotate_left
                          · rintro w' ⟨s0, s1, s2, s3, s4, s5, s6, s7⟩
                            go_simp
                            with_reducible rfl
                          rotate_left
                          · simp only [Act.put, List.setIfInBounds_toArray, List.set_cons_zero, List.set_cons_succ, i64_w, i32_w]
                            rfl
                          refine one_ (i := 1) (N := some 75) #[true, true, true, false, false, false, false, false, false, false, false, false, false, false, false, false, false, false, false, false, false, false, false, false, false, false, false] rfl rfl (one_of HT_.out (by kernel_rfl)) (by decide) (fun K hK => ?_)
                          refine goes_ Try.func15 (by kernel_rfl) rfl #[.agg #[.int .i64 x108000_32, .int .i64 x108001_32, .int .i64 x108002_32, .string x108003_32]] (by rfl) rfl rfl (by (try simp only [List.map_toArray, List.map_cons, List.map_nil]); first | done | rfl | (simp only [List.length_drop, List.length_take]; rfl)) ?_
                          with_reducible refine (val_Right.calls kj32 x108000_32 x108001_32 x108002_32 x108003_32 t129 _ A71.out).mono ?_
                          rintro e w83 ⟨rfl, hb⟩
                          refine ⟨_, rfl, ?_⟩
                          have n0_ := Aside0.mk (blk_below (g := gb101) (o := .cells #[.int .i64 a0_0, .int .i64 a0_1, .int .i64 a0_2, .string a0_3] 23 (0, 0)) (by (with_reducible repeat (first | refine blk_drewN ?_ _ | refine blk_drew ?_ | refine blk_alloc ?_ _)); exact BK101.out) hb)
                          have n1_ := Aside0.mk (blk_below (g := gb107) (o := .cells #[.int .i64 x108000_32, .int .i64 x108001_32, .int .i64 x108002_32, .string x108003_32] 23 (0, 0)) (by (with_reducible repeat (first | refine blk_drewN ?_ _ | refine blk_drew ?_ | refine blk_alloc ?_ _)); exact BK107.out) hb)
                          have n2_ := Aside0.mk (below_step (by repeat (first | (with_reducible first | exact HB.out | apply below_alloc | apply pw_below_drewN | apply below_drew1 | refine below_set ?_ GE101.out | refine below_set ?_ GE107.out) | exact HB.out)) hb)
                          clear BK101
                          clear BK107
                          clear HB
                          have BK101 := n0_
                          have BK107 := n1_
                          have HB := n2_
                          clear n0_ n1_ n2_
                          (try clear hb)
                          (try clear hb2)
                          (try clear hk)
                          (try clear hi)
                          refine hK.out _ _ ⟨(blk_cell BK107.out 0).trans rfl, (blk_cell BK107.out 1).trans rfl, (blk_cell BK107.out 2).trans rfl, (blk_cell BK107.out 3).trans rfl, (blk_cell BK101.out 0).trans rfl, (blk_cell BK101.out 1).trans rfl, (blk_cell BK101.out 2).trans rfl, (blk_cell BK101.out 3).trans rfl⟩ (fun hHeld => ?_)
                          clear hK K
                          refine norm_ (a' := ?_) ?_ ?_
                          rotate_left
                          · show Act.put _ (some 75) _ = _
                            simp only [Act.put, List.setIfInBounds_toArray, List.set_cons_zero, List.set_cons_succ, i64_w, i32_w]
                            rfl
                          refine one_ (i := 3) (N := some 77) #[true, true, true, true, false, false, false, false, false, false, false, false, false, false, false, false, false, false, false, false, false, false, false, false, false, false, false] rfl rfl (one_of HT_.out (by kernel_rfl)) (by decide) (fun K hK => ?_)
                          refine goes_ Try.func18 (by kernel_rfl) rfl #[.agg #[.int .i64 x108000_32, .int .i64 x108001_32, .int .i64 x108002_32, .string x108003_32]] (by rfl) rfl rfl (by (try simp only [List.map_toArray, List.map_cons, List.map_nil]); first | done | rfl | (simp only [List.length_drop, List.length_take]; rfl)) ?_
                          with_reducible refine (federationref1_Right.calls kj32 x108000_32 x108001_32 x108002_32 x108003_32 t130 _ A72.out).mono ?_
                          rintro e w84 ⟨rfl, hb⟩
                          refine ⟨_, rfl, ?_⟩
                          have n0_ := Aside0.mk (blk_below (g := gb101) (o := .cells #[.int .i64 a0_0, .int .i64 a0_1, .int .i64 a0_2, .string a0_3] 23 (0, 0)) (by (with_reducible repeat (first | refine blk_drewN ?_ _ | refine blk_drew ?_ | refine blk_alloc ?_ _)); exact BK101.out) hb)
                          have n1_ := Aside0.mk (blk_below (g := gb107) (o := .cells #[.int .i64 x108000_32, .int .i64 x108001_32, .int .i64 x108002_32, .string x108003_32] 23 (0, 0)) (by (with_reducible repeat (first | refine blk_drewN ?_ _ | refine blk_drew ?_ | refine blk_alloc ?_ _)); exact BK107.out) hb)
                          have n2_ := Aside0.mk (below_step (by repeat (first | (with_reducible first | exact HB.out | apply below_alloc | apply pw_below_drewN | apply below_drew1 | refine below_set ?_ GE101.out | refine below_set ?_ GE107.out) | exact HB.out)) hb)
                          clear BK101
                          clear BK107
                          clear HB
                          have BK101 := n0_
                          have BK107 := n1_
                          have HB := n2_
                          clear n0_ n1_ n2_
                          (try clear hb)
                          (try clear hb2)
                          (try clear hk)
                          (try clear hi)
                          refine hK.out _ _ ⟨(blk_cell BK107.out 0).trans rfl, (blk_cell BK107.out 1).trans rfl, (blk_cell BK107.out 2).trans rfl, (blk_cell BK107.out 3).trans rfl, (blk_cell BK101.out 0).trans rfl, (blk_cell BK101.out 1).trans rfl, (blk_cell BK101.out 2).trans rfl, (blk_cell BK101.out 3).trans rfl⟩ (fun hHeld => ?_)
                          clear hK K
                          refine norm_ (a' := ?_) ?_ ?_
                          rotate_left
                          · show Act.put _ (some 77) _ = _
                            simp only [Act.put, List.setIfInBounds_toArray, List.set_cons_zero, List.set_cons_succ, i64_w, i32_w]
                            rfl
                          refine pure_ (i := 4) (N := some 78) (v := ?_) (a' := ?_) #[true, true, true, true, true, false, false, false, false, false, false, false, false, false, false, false, false, false, false, false, false, false, false, false, false, false, false] rfl rfl (any_of HT_.out (by kernel_rfl)) (fun _ _ _ h => h) (Or.inl ⟨by rfl, ?_⟩) ?_ ?_
                          rotate_left
                          · intro w'
                            go_simp
                            with_reducible rfl
                          rotate_left
                          · simp only [Act.put, List.setIfInBounds_toArray, List.set_cons_zero, List.set_cons_succ, i64_w, i32_w]
                            rfl
                          refine pure_ (i := 5) (N := some 79) (v := ?_) (a' := ?_) #[true, true, true, true, true, true, false, false, false, false, false, false, false, false, false, false, false, false, false, false, false, false, false, false, false, false, false] rfl rfl (any_of HT_.out (by kernel_rfl)) (fun _ _ _ h => h) (Or.inl ⟨by rfl, ?_⟩) ?_ ?_
                          rotate_left
                          · intro w'
                            go_simp
                            with_reducible rfl
                          rotate_left
                          · simp only [Act.put, List.setIfInBounds_toArray, List.set_cons_zero, List.set_cons_succ, i64_w, i32_w]
                            rfl
                          refine take_ (i := 6) (N := some 80) (v := ?_) (a' := ?_) #[true, true, true, true, true, true, true, false, false, false, false, false, false, false, false, false, false, false, false, false, false, false, false, false, false, false, false] rfl rfl (take_ofW HT_.out HW_.out (by kernel_rfl)) (fun _ _ _ h => h) (Or.inl ⟨by rfl, ?_⟩) hHeld ?_ ?_
                          rotate_left
                          · rintro w' ⟨s0, s1, s2, s3, s4, s5, s6, s7⟩
                            go_simp
                            with_reducible rfl
                          rotate_left
                          · simp only [Act.put, List.setIfInBounds_toArray, List.set_cons_zero, List.set_cons_succ, i64_w, i32_w]
                            rfl
                          refine take_ (i := 8) (N := some 82) (v := ?_) (a' := ?_) #[true, true, true, true, true, true, true, false, true, false, false, false, false, false, false, false, false, false, false, false, false, false, false, false, false, false, false] rfl rfl (take_ofW HT_.out HW_.out (by kernel_rfl)) (fun _ _ _ h => h) (Or.inl ⟨by rfl, ?_⟩) hHeld ?_ ?_
                          rotate_left
                          · rintro w' ⟨s0, s1, s2, s3, s4, s5, s6, s7⟩
                            go_simp
                            with_reducible rfl
                          rotate_left
                          · simp only [Act.put, List.setIfInBounds_toArray, List.set_cons_zero, List.set_cons_succ, i64_w, i32_w]
                            rfl
                          refine one_ (i := 7) (N := some 81) #[true, true, true, true, true, true, true, true, true, false, false, false, false, false, false, false, false, false, false, false, false, false, false, false, false, false, false] rfl rfl (one_of HT_.out (by kernel_rfl)) (by decide) (fun K hK => ?_)
                          refine goes_ Try.func15 (by kernel_rfl) rfl #[.agg #[.int .i64 a0_0, .int .i64 a0_1, .int .i64 a0_2, .string a0_3]] (by rfl) rfl rfl (by (try simp only [List.map_toArray, List.map_cons, List.map_nil]); first | done | rfl | (simp only [List.length_drop, List.length_take]; rfl)) ?_
                          with_reducible refine (val_Right.calls kj32 a0_0 a0_1 a0_2 a0_3 t131 _ A74.out).mono ?_
                          rintro e w85 ⟨rfl, hb⟩
                          refine ⟨_, rfl, ?_⟩
                          have n0_ := Aside0.mk (blk_below (g := gb101) (o := .cells #[.int .i64 a0_0, .int .i64 a0_1, .int .i64 a0_2, .string a0_3] 23 (0, 0)) (by (with_reducible repeat (first | refine blk_drewN ?_ _ | refine blk_drew ?_ | refine blk_alloc ?_ _)); exact BK101.out) hb)
                          have n1_ := Aside0.mk (blk_below (g := gb107) (o := .cells #[.int .i64 x108000_32, .int .i64 x108001_32, .int .i64 x108002_32, .string x108003_32] 23 (0, 0)) (by (with_reducible repeat (first | refine blk_drewN ?_ _ | refine blk_drew ?_ | refine blk_alloc ?_ _)); exact BK107.out) hb)
                          have n2_ := Aside0.mk (below_step (by repeat (first | (with_reducible first | exact HB.out | apply below_alloc | apply pw_below_drewN | apply below_drew1 | refine below_set ?_ GE101.out | refine below_set ?_ GE107.out) | exact HB.out)) hb)
                          clear BK101
                          clear BK107
                          clear HB
                          have BK101 := n0_
                          have BK107 := n1_
                          have HB := n2_
                          clear n0_ n1_ n2_
                          (try clear hb)
                          (try clear hb2)
                          (try clear hk)
                          (try clear hi)
                          refine hK.out _ _ ⟨(blk_cell BK107.out 0).trans rfl, (blk_cell BK107.out 1).trans rfl, (blk_cell BK107.out 2).trans rfl, (blk_cell BK107.out 3).trans rfl, (blk_cell BK101.out 0).trans rfl, (blk_cell BK101.out 1).trans rfl, (blk_cell BK101.out 2).trans rfl, (blk_cell BK101.out 3).trans rfl⟩ (fun hHeld => ?_)
                          clear hK K
                          refine norm_ (a' := ?_) ?_ ?_
                          rotate_left
                          · show Act.put _ (some 81) _ = _
                            simp only [Act.put, List.setIfInBounds_toArray, List.set_cons_zero, List.set_cons_succ, i64_w, i32_w]
                            rfl
                          refine one_ (i := 9) (N := some 83) #[true, true, true, true, true, true, true, true, true, true, false, false, false, false, false, false, false, false, false, false, false, false, false, false, false, false, false] rfl rfl (one_of HT_.out (by kernel_rfl)) (by decide) (fun K hK => ?_)
                          refine goes_ Try.func18 (by kernel_rfl) rfl #[.agg #[.int .i64 a0_0, .int .i64 a0_1, .int .i64 a0_2, .string a0_3]] (by rfl) rfl rfl (by (try simp only [List.map_toArray, List.map_cons, List.map_nil]); first | done | rfl | (simp only [List.length_drop, List.length_take]; rfl)) ?_
                          with_reducible refine (federationref1_Right.calls kj32 a0_0 a0_1 a0_2 a0_3 t132 _ A75.out).mono ?_
                          rintro e w86 ⟨rfl, hb⟩
                          refine ⟨_, rfl, ?_⟩
                          have n0_ := Aside0.mk (blk_below (g := gb101) (o := .cells #[.int .i64 a0_0, .int .i64 a0_1, .int .i64 a0_2, .string a0_3] 23 (0, 0)) (by (with_reducible repeat (first | refine blk_drewN ?_ _ | refine blk_drew ?_ | refine blk_alloc ?_ _)); exact BK101.out) hb)
                          have n1_ := Aside0.mk (blk_below (g := gb107) (o := .cells #[.int .i64 x108000_32, .int .i64 x108001_32, .int .i64 x108002_32, .string x108003_32] 23 (0, 0)) (by (with_reducible repeat (first | refine blk_drewN ?_ _ | refine blk_drew ?_ | refine blk_alloc ?_ _)); exact BK107.out) hb)
                          have n2_ := Aside0.mk (below_step (by repeat (first | (with_reducible first | exact HB.out | apply below_alloc | apply pw_below_drewN | apply below_drew1 | refine below_set ?_ GE101.out | refine below_set ?_ GE107.out) | exact HB.out)) hb)
                          clear BK101
                          clear BK107
                          clear HB
                          have BK101 := n0_
                          have BK107 := n1_
                          have HB := n2_
                          clear n0_ n1_ n2_
                          (try clear hb)
                          (try clear hb2)
                          (try clear hk)
                          (try clear hi)
                          refine hK.out _ _ ⟨(blk_cell BK107.out 0).trans rfl, (blk_cell BK107.out 1).trans rfl, (blk_cell BK107.out 2).trans rfl, (blk_cell BK107.out 3).trans rfl, (blk_cell BK101.out 0).trans rfl, (blk_cell BK101.out 1).trans rfl, (blk_cell BK101.out 2).trans rfl, (blk_cell BK101.out 3).trans rfl⟩ (fun hHeld => ?_)
                          clear hK K
                          refine norm_ (a' := ?_) ?_ ?_
                          rotate_left
                          · show Act.put _ (some 83) _ = _
                            simp only [Act.put, List.setIfInBounds_toArray, List.set_cons_zero, List.set_cons_succ, i64_w, i32_w]
                            rfl
                          refine pure_ (i := 10) (N := some 84) (v := ?_) (a' := ?_) #[true, true, true, true, true, true, true, true, true, true, true, false, false, false, false, false, false, false, false, false, false, false, false, false, false, false, false] rfl rfl (any_of HT_.out (by kernel_rfl)) (fun _ _ _ h => h) (Or.inl ⟨by rfl, ?_⟩) ?_ ?_
                          rotate_left
                          · intro w'
                            go_simp
                            with_reducible rfl
                          rotate_left
                          · simp only [Act.put, List.setIfInBounds_toArray, List.set_cons_zero, List.set_cons_succ, i64_w, i32_w]
                            rfl
                          refine pure_ (i := 11) (N := some 85) (v := ?_) (a' := ?_) #[true, true, true, true, true, true, true, true, true, true, true, true, false, false, false, false, false, false, false, false, false, false, false, false, false, false, false] rfl rfl (any_of HT_.out (by kernel_rfl)) (fun _ _ _ h => h) (Or.inl ⟨by rfl, ?_⟩) ?_ ?_
                          rotate_left
                          · intro w'
                            go_simp
                            with_reducible rfl
                          rotate_left
                          · simp only [Act.put, List.setIfInBounds_toArray, List.set_cons_zero, List.set_cons_succ, i64_w, i32_w]
                            rfl
                          refine pure_ (i := 12) (N := some 86) (v := ?_) (a' := ?_) #[true, true, true, true, true, true, true, true, true, true, true, true, true, false, false, false, false, false, false, false, false, false, false, false, false, false, false] rfl rfl (any_of HT_.out (by kernel_rfl)) (fun _ _ _ h => h) (Or.inl ⟨by rfl, ?_⟩) ?_ ?_
                          rotate_left
                          · intro w'
                            go_simp
                            with_reducible rfl
                          rotate_left
                          · simp only [Act.put, List.setIfInBounds_toArray, List.set_cons_zero, List.set_cons_succ, i64_w, i32_w]
                            rfl
                          refine take_ (i := 13) (N := some 87) (v := ?_) (a' := ?_) #[true, true, true, true, true, true, true, true, true, true, true, true, true, true, false, false, false, false, false, false, false, false, false, false, false, false, false] rfl rfl (take_ofW HT_.out HW_.out (by kernel_rfl)) (fun _ _ _ h => h) (Or.inl ⟨by rfl, ?_⟩) hHeld ?_ ?_
                          rotate_left
                          · rintro w' ⟨s0, s1, s2, s3, s4, s5, s6, s7⟩
                            go_simp
                            with_reducible rfl
                          rotate_left
                          · simp only [Act.put, List.setIfInBounds_toArray, List.set_cons_zero, List.set_cons_succ, i64_w, i32_w]
                            rfl
                          refine take_ (i := 15) (N := some 89) (v := ?_) (a' := ?_) #[true, true, true, true, true, true, true, true, true, true, true, true, true, true, false, true, false, false, false, false, false, false, false, false, false, false, false] rfl rfl (take_ofW HT_.out HW_.out (by kernel_rfl)) (fun _ _ _ h => h) (Or.inl ⟨by rfl, ?_⟩) hHeld ?_ ?_
                          rotate_left
                          · rintro w' ⟨s0, s1, s2, s3, s4, s5, s6, s7⟩
                            go_simp
                            with_reducible rfl
                          rotate_left
                          · simp only [Act.put, List.setIfInBounds_toArray, List.set_cons_zero, List.set_cons_succ, i64_w, i32_w]
                            rfl
                          refine one_ (i := 14) (N := some 88) #[true, true, true, true, true, true, true, true, true, true, true, true, true, true, true, true, false, false, false, false, false, false, false, false, false, false, false] rfl rfl (one_of HT_.out (by kernel_rfl)) (by decide) (fun K hK => ?_)
                          refine goes_ Try.func16 (by kernel_rfl) rfl #[.agg #[.int .i64 x108000_32, .int .i64 x108001_32, .int .i64 x108002_32, .string x108003_32]] (by rfl) rfl rfl (by (try simp only [List.map_toArray, List.map_cons, List.map_nil]); first | done | rfl | (simp only [List.length_drop, List.length_take]; rfl)) ?_
                          with_reducible refine (val_Norm.calls kj32 x108000_32 x108001_32 x108002_32 x108003_32 t133 t134 t135 t136 _ A77.out).mono ?_
                          rintro e w87 ⟨rfl, hb⟩
                          refine ⟨_, rfl, ?_⟩
                          have n0_ := Aside0.mk (blk_below (g := gb101) (o := .cells #[.int .i64 a0_0, .int .i64 a0_1, .int .i64 a0_2, .string a0_3] 23 (0, 0)) (by (with_reducible repeat (first | refine blk_drewN ?_ _ | refine blk_drew ?_ | refine blk_alloc ?_ _)); exact BK101.out) hb)
                          have n1_ := Aside0.mk (blk_below (g := gb107) (o := .cells #[.int .i64 x108000_32, .int .i64 x108001_32, .int .i64 x108002_32, .string x108003_32] 23 (0, 0)) (by (with_reducible repeat (first | refine blk_drewN ?_ _ | refine blk_drew ?_ | refine blk_alloc ?_ _)); exact BK107.out) hb)
                          have n2_ := Aside0.mk (below_step (by repeat (first | (with_reducible first | exact HB.out | apply below_alloc | apply pw_below_drewN | apply below_drew1 | refine below_set ?_ GE101.out | refine below_set ?_ GE107.out) | exact HB.out)) hb)
                          clear BK101
                          clear BK107
                          clear HB
                          have BK101 := n0_
                          have BK107 := n1_
                          have HB := n2_
                          clear n0_ n1_ n2_
                          (try clear hb)
                          (try clear hb2)
                          (try clear hk)
                          (try clear hi)
                          refine hK.out _ _ ⟨(blk_cell BK107.out 0).trans rfl, (blk_cell BK107.out 1).trans rfl, (blk_cell BK107.out 2).trans rfl, (blk_cell BK107.out 3).trans rfl, (blk_cell BK101.out 0).trans rfl, (blk_cell BK101.out 1).trans rfl, (blk_cell BK101.out 2).trans rfl, (blk_cell BK101.out 3).trans rfl⟩ (fun hHeld => ?_)
                          clear hK K
                          refine norm_ (a' := ?_) ?_ ?_
                          rotate_left
                          · show Act.put _ (some 88) _ = _
                            simp only [Act.put, List.setIfInBounds_toArray, List.set_cons_zero, List.set_cons_succ, i64_w, i32_w]
                            rfl
                          refine one_ (i := 16) (N := some 90) #[true, true, true, true, true, true, true, true, true, true, true, true, true, true, true, true, true, false, false, false, false, false, false, false, false, false, false] rfl rfl (one_of HT_.out (by kernel_rfl)) (by decide) (fun K hK => ?_)
                          refine goes_ Try.func19 (by kernel_rfl) rfl #[.agg #[.int .i64 x108000_32, .int .i64 x108001_32, .int .i64 x108002_32, .string x108003_32]] (by rfl) rfl rfl (by (try simp only [List.map_toArray, List.map_cons, List.map_nil]); first | done | rfl | (simp only [List.length_drop, List.length_take]; rfl)) ?_
                          with_reducible refine (federationref1_Norm.calls kj32 x108000_32 x108001_32 x108002_32 x108003_32 t137 t138 t139 t140 _ A78.out).mono ?_
                          rintro e w88 ⟨rfl, hb⟩
                          refine ⟨_, rfl, ?_⟩
                          have n0_ := Aside0.mk (blk_below (g := gb101) (o := .cells #[.int .i64 a0_0, .int .i64 a0_1, .int .i64 a0_2, .string a0_3] 23 (0, 0)) (by (with_reducible repeat (first | refine blk_drewN ?_ _ | refine blk_drew ?_ | refine blk_alloc ?_ _)); exact BK101.out) hb)
                          have n1_ := Aside0.mk (blk_below (g := gb107) (o := .cells #[.int .i64 x108000_32, .int .i64 x108001_32, .int .i64 x108002_32, .string x108003_32] 23 (0, 0)) (by (with_reducible repeat (first | refine blk_drewN ?_ _ | refine blk_drew ?_ | refine blk_alloc ?_ _)); exact BK107.out) hb)
                          have n2_ := Aside0.mk (below_step (by repeat (first | (with_reducible first | exact HB.out | apply below_alloc | apply pw_below_drewN | apply below_drew1 | refine below_set ?_ GE101.out | refine below_set ?_ GE107.out) | exact HB.out)) hb)
                          clear BK101
                          clear BK107
                          clear HB
                          have BK101 := n0_
                          have BK107 := n1_
                          have HB := n2_
                          clear n0_ n1_ n2_
                          (try clear hb)
                          (try clear hb2)
                          (try clear hk)
                          (try clear hi)
                          refine hK.out _ _ ⟨(blk_cell BK107.out 0).trans rfl, (blk_cell BK107.out 1).trans rfl, (blk_cell BK107.out 2).trans rfl, (blk_cell BK107.out 3).trans rfl, (blk_cell BK101.out 0).trans rfl, (blk_cell BK101.out 1).trans rfl, (blk_cell BK101.out 2).trans rfl, (blk_cell BK101.out 3).trans rfl⟩ (fun hHeld => ?_)
                          clear hK K
                          refine norm_ (a' := ?_) ?_ ?_
                          rotate_left
                          · show Act.put _ (some 90) _ = _
                            simp only [Act.put, List.setIfInBounds_toArray, List.set_cons_zero, List.set_cons_succ, i64_w, i32_w]
                            rfl
                          refine pure_ (i := 17) (N := some 91) (v := ?_) (a' := ?_) #[true, true, true, true, true, true, true, true, true, true, true, true, true, true, true, true, true, true, false, false, false, false, false, false, false, false, false] rfl rfl (any_of HT_.out (by kernel_rfl)) (fun _ _ _ h => h) (Or.inl ⟨by rfl, ?_⟩) ?_ ?_
                          rotate_left
                          · intro w'
                            go_simp
                            with_reducible rfl
                          rotate_left
                          · simp only [Act.put, List.setIfInBounds_toArray, List.set_cons_zero, List.set_cons_succ, i64_w, i32_w]
                            rfl
                          refine pure_ (i := 18) (N := some 92) (v := ?_) (a' := ?_) #[true, true, true, true, true, true, true, true, true, true, true, true, true, true, true, true, true, true, true, false, false, false, false, false, false, false, false] rfl rfl (any_of HT_.out (by kernel_rfl)) (fun _ _ _ h => h) (Or.inl ⟨by rfl, ?_⟩) ?_ ?_
                          rotate_left
                          · intro w'
                            go_simp
                            with_reducible rfl
                          rotate_left
                          · simp only [Act.put, List.setIfInBounds_toArray, List.set_cons_zero, List.set_cons_succ, i64_w, i32_w]
                            rfl
                          refine pure_ (i := 19) (N := some 93) (v := ?_) (a' := ?_) #[true, true, true, true, true, true, true, true, true, true, true, true, true, true, true, true, true, true, true, true, false, false, false, false, false, false, false] rfl rfl (any_of HT_.out (by kernel_rfl)) (fun _ _ _ h => h) (Or.inl ⟨by rfl, ?_⟩) ?_ ?_
                          rotate_left
                          · intro w'
                            go_simp
                            with_reducible rfl
                          rotate_left
                          · simp only [Act.put, List.setIfInBounds_toArray, List.set_cons_zero, List.set_cons_succ, i64_w, i32_w]
                            rfl
                          refine take_ (i := 20) (N := some 94) (v := ?_) (a' := ?_) #[true, true, true, true, true, true, true, true, true, true, true, true, true, true, true, true, true, true, true, true, true, false, false, false, false, false, false] rfl rfl (take_ofW HT_.out HW_.out (by kernel_rfl)) (fun _ _ _ h => h) (Or.inl ⟨by rfl, ?_⟩) hHeld ?_ ?_
                          rotate_left
                          · rintro w' ⟨s0, s1, s2, s3, s4, s5, s6, s7⟩
                            go_simp
                            with_reducible rfl
                          rotate_left
                          · simp only [Act.put, List.setIfInBounds_toArray, List.set_cons_zero, List.set_cons_succ, i64_w, i32_w]
                            rfl
                          refine take_ (i := 22) (N := some 96) (v := ?_) (a' := ?_) #[true, true, true, true, true, true, true, true, true, true, true, true, true, true, true, true, true, true, true, true, true, false, true, false, false, false, false] rfl rfl (take_ofW HT_.out HW_.out (by kernel_rfl)) (fun _ _ _ h => h) (Or.inl ⟨by rfl, ?_⟩) hHeld ?_ ?_
                          rotate_left
                          · rintro w' ⟨s0, s1, s2, s3, s4, s5, s6, s7⟩
                            go_simp
                            with_reducible rfl
                          rotate_left
                          · simp only [Act.put, List.setIfInBounds_toArray, List.set_cons_zero, List.set_cons_succ, i64_w, i32_w]
                            rfl
                          refine one_ (i := 21) (N := some 95) #[true, true, true, true, true, true, true, true, true, true, true, true, true, true, true, true, true, true, true, true, true, true, true, false, false, false, false] rfl rfl (one_of HT_.out (by kernel_rfl)) (by decide) (fun K hK => ?_)
                          refine goes_ Try.func16 (by kernel_rfl) rfl #[.agg #[.int .i64 a0_0, .int .i64 a0_1, .int .i64 a0_2, .string a0_3]] (by rfl) rfl rfl (by (try simp only [List.map_toArray, List.map_cons, List.map_nil]); first | done | rfl | (simp only [List.length_drop, List.length_take]; rfl)) ?_
                          with_reducible refine (val_Norm.calls kj32 a0_0 a0_1 a0_2 a0_3 t141 t142 t143 t144 _ A80.out).mono ?_
                          rintro e w89 ⟨rfl, hb⟩
                          refine ⟨_, rfl, ?_⟩
                          have n0_ := Aside0.mk (blk_below (g := gb101) (o := .cells #[.int .i64 a0_0, .int .i64 a0_1, .int .i64 a0_2, .string a0_3] 23 (0, 0)) (by (with_reducible repeat (first | refine blk_drewN ?_ _ | refine blk_drew ?_ | refine blk_alloc ?_ _)); exact BK101.out) hb)
                          have n1_ := Aside0.mk (blk_below (g := gb107) (o := .cells #[.int .i64 x108000_32, .int .i64 x108001_32, .int .i64 x108002_32, .string x108003_32] 23 (0, 0)) (by (with_reducible repeat (first | refine blk_drewN ?_ _ | refine blk_drew ?_ | refine blk_alloc ?_ _)); exact BK107.out) hb)
                          have n2_ := Aside0.mk (below_step (by repeat (first | (with_reducible first | exact HB.out | apply below_alloc | apply pw_below_drewN | apply below_drew1 | refine below_set ?_ GE101.out | refine below_set ?_ GE107.out) | exact HB.out)) hb)
                          clear BK101
                          clear BK107
                          clear HB
                          have BK101 := n0_
                          have BK107 := n1_
                          have HB := n2_
                          clear n0_ n1_ n2_
                          (try clear hb)
                          (try clear hb2)
                          (try clear hk)
                          (try clear hi)
                          refine hK.out _ _ ⟨(blk_cell BK107.out 0).trans rfl, (blk_cell BK107.out 1).trans rfl, (blk_cell BK107.out 2).trans rfl, (blk_cell BK107.out 3).trans rfl, (blk_cell BK101.out 0).trans rfl, (blk_cell BK101.out 1).trans rfl, (blk_cell BK101.out 2).trans rfl, (blk_cell BK101.out 3).trans rfl⟩ (fun hHeld => ?_)
                          clear hK K
                          refine norm_ (a' := ?_) ?_ ?_
                          rotate_left
                          · show Act.put _ (some 95) _ = _
                            simp only [Act.put, List.setIfInBounds_toArray, List.set_cons_zero, List.set_cons_succ, i64_w, i32_w]
                            rfl
                          refine one_ (i := 23) (N := some 97) #[true, true, true, true, true, true, true, true, true, true, true, true, true, true, true, true, true, true, true, true, true, true, true, true, false, false, false] rfl rfl (one_of HT_.out (by kernel_rfl)) (by decide) (fun K hK => ?_)
                          refine goes_ Try.func19 (by kernel_rfl) rfl #[.agg #[.int .i64 a0_0, .int .i64 a0_1, .int .i64 a0_2, .string a0_3]] (by rfl) rfl rfl (by (try simp only [List.map_toArray, List.map_cons, List.map_nil]); first | done | rfl | (simp only [List.length_drop, List.length_take]; rfl)) ?_
                          with_reducible refine (federationref1_Norm.calls kj32 a0_0 a0_1 a0_2 a0_3 t145 t146 t147 t148 _ A81.out).mono ?_
                          rintro e w90 ⟨rfl, hb⟩
                          refine ⟨_, rfl, ?_⟩
                          have n0_ := Aside0.mk (blk_below (g := gb101) (o := .cells #[.int .i64 a0_0, .int .i64 a0_1, .int .i64 a0_2, .string a0_3] 23 (0, 0)) (by (with_reducible repeat (first | refine blk_drewN ?_ _ | refine blk_drew ?_ | refine blk_alloc ?_ _)); exact BK101.out) hb)
                          have n1_ := Aside0.mk (blk_below (g := gb107) (o := .cells #[.int .i64 x108000_32, .int .i64 x108001_32, .int .i64 x108002_32, .string x108003_32] 23 (0, 0)) (by (with_reducible repeat (first | refine blk_drewN ?_ _ | refine blk_drew ?_ | refine blk_alloc ?_ _)); exact BK107.out) hb)
                          have n2_ := Aside0.mk (below_step (by repeat (first | (with_reducible first | exact HB.out | apply below_alloc | apply pw_below_drewN | apply below_drew1 | refine below_set ?_ GE101.out | refine below_set ?_ GE107.out) | exact HB.out)) hb)
                          clear BK101
                          clear BK107
                          clear HB
                          have BK101 := n0_
                          have BK107 := n1_
                          have HB := n2_
                          clear n0_ n1_ n2_
                          (try clear hb)
                          (try clear hb2)
                          (try clear hk)
                          (try clear hi)
                          refine hK.out _ _ ⟨(blk_cell BK107.out 0).trans rfl, (blk_cell BK107.out 1).trans rfl, (blk_cell BK107.out 2).trans rfl, (blk_cell BK107.out 3).trans rfl, (blk_cell BK101.out 0).trans rfl, (blk_cell BK101.out 1).trans rfl, (blk_cell BK101.out 2).trans rfl, (blk_cell BK101.out 3).trans rfl⟩ (fun hHeld => ?_)
                          clear hK K
                          refine norm_ (a' := ?_) ?_ ?_
                          rotate_left
                          · show Act.put _ (some 97) _ = _
                            simp only [Act.put, List.setIfInBounds_toArray, List.set_cons_zero, List.set_cons_succ, i64_w, i32_w]
                            rfl
                          refine pure_ (i := 24) (N := some 98) (v := ?_) (a' := ?_) #[true, true, true, true, true, true, true, true, true, true, true, true, true, true, true, true, true, true, true, true, true, true, true, true, true, false, false] rfl rfl (any_of HT_.out (by kernel_rfl)) (fun _ _ _ h => h) (Or.inl ⟨by rfl, ?_⟩) ?_ ?_
                          rotate_left
                          · intro w'
                            go_simp
                            with_reducible rfl
                          rotate_left
                          · simp only [Act.put, List.setIfInBounds_toArray, List.set_cons_zero, List.set_cons_succ, i64_w, i32_w]
                            rfl
                          refine pure_ (i := 25) (N := some 99) (v := ?_) (a' := ?_) #[true, true, true, true, true, true, true, true, true, true, true, true, true, true, true, true, true, true, true, true, true, true, true, true, true, true, false] rfl rfl (any_of HT_.out (by kernel_rfl)) (fun _ _ _ h => h) (Or.inl ⟨by rfl, ?_⟩) ?_ ?_
                          rotate_left
                          · intro w'
                            go_simp
                            with_reducible rfl
                          rotate_left
                          · simp only [Act.put, List.setIfInBounds_toArray, List.set_cons_zero, List.set_cons_succ, i64_w, i32_w]
                            rfl
                          refine pure_ (i := 26) (N := some 12) (v := ?_) (a' := ?_) #[true, true, true, true, true, true, true, true, true, true, true, true, true, true, true, true, true, true, true, true, true, true, true, true, true, true, true] rfl rfl (any_of HT_.out (by kernel_rfl)) (fun _ _ _ h => h) (Or.inl ⟨by rfl, ?_⟩) ?_ ?_
                          rotate_left
                          · intro w'
                            go_simp
                            with_reducible rfl
                          rotate_left
                          · simp only [Act.put, List.setIfInBounds_toArray, List.set_cons_zero, List.set_cons_succ, i64_w, i32_w]
                            rfl
                          refine done_ (done_of HT_.out (by kernel_rfl)) ?_
                          try go_wp2
                          go_ret
                          exact ⟨by first | rfl | (simp [errW_none, errW_some] <;> rfl) | (simp [*, errW_none, errW_some] <;> rfl), by repeat (first | (with_reducible first | exact HB.out | apply below_alloc | apply pw_below_drewN | apply below_drew1 | refine below_set ?_ GE101.out | refine below_set ?_ GE107.out) | exact HB.out)⟩
                        · rw [if_neg c79] at H
                          exact absurd H (by simp)
                      · rw [if_neg c76] at H
                        exact absurd H (by simp)
                    · rw [if_neg c73] at H
                      exact absurd H (by simp)
  · replace c8 := Bool.eq_false_iff.mpr c8
    subst c8
    have H1 : (none) = some r := by rw [if_neg (show ¬ (false = true) by decide)] at H; exact H
    clear H
    have H := H1
    clear H1
    exact absurd H (by simp)
end Go.Proofs.Ytllkhdhanheieaa.V
