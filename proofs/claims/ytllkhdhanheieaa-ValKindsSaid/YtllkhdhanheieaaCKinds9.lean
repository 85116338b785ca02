-- Written by drive.py and pack.py (programs of this proof's own) through the kit's printer; not trusted: Lean checks it.
import Derived.Test.YtllkhdhanheieaaCKinds1
import Derived.Test.YtllkhdhanheieaaCKinds7
import Derived.Test.YtllkhdhanheieaaCKinds8
import Derived.Test.YtllkhdhanheieaaCKinds6
import Derived.Test.YtllkhdhanheieaaCKinds3
import Derived.Test.YtllkhdhanheieaaCKinds5
import Derived.Test.YtllkhdhanheieaaCKinds2
import Derived.Test.YtllkhdhanheieaaCKinds4
namespace Go.Proofs.Ytllkhdhanheieaa.U
open Go.RowKit Go.Proofs.YtllkhdhanheieaaW.PrintWords Go.Proofs.YtllkhdhanheieaaW.PrintLast Go.Proofs.YtllkhdhanheieaaW.PrintMore
attribute [local go_sem] max2_int min2_int max_two min_two max_three min_three max_four min_four
attribute [local go_sem high] own_gtr own_leq own_geq own_cell_set Option.map_some fld23_1
set_option linter.unusedVariables false
set_option linter.unusedSimpArgs false
attribute [local go_sem high] eqA23
mutual
def federationlaw1_ValKinds.j0 : Nat → Int → Int → Int → Int → ByteArray → ByteArray → Bool → Option (Bool)
  | 0, _, _, _, _, _, _, _ => none
  | k + 1, x0, x1, x2, x3, x4, x5, x25 => if x25 = true then (some true) else ((federationlaw1_Make.f k x0 x1 x4).bind fun bt102 => ((federationlaw1_Make.f k x2 x3 x5).bind fun bt106 => ((val_Order.f k bt102.1 bt102.2.1 bt102.2.2.1 bt102.2.2.2 bt106.1 bt106.2.1 bt106.2.2.1 bt106.2.2.2).bind fun t112 => (if bt102.1 = bt106.1 then (if bt102.1 = 4 then (federationlaw1_ValKinds.j1 k t112 true bt102.1 bt102.2.1 bt102.2.2.1 bt102.2.2.2 bt106.1 bt106.2.1 bt106.2.2.1 bt106.2.2.2) else (federationlaw1_ValKinds.j1 k t112 (bt102.1 == 5) bt102.1 bt102.2.1 bt102.2.2.1 bt102.2.2.2 bt106.1 bt106.2.1 bt106.2.2.1 bt106.2.2.2)) else (if ((decide (t112 < 0)) == (decide (bt102.1 < bt106.1))) = true then (some (t112 != 0)) else (none))))))
def federationlaw1_ValKinds.j1 : Nat → Int → Bool → Int → Int → Int → ByteArray → Int → Int → Int → ByteArray → Option (Bool)
  | 0, _, _, _, _, _, _, _, _, _, _ => none
  | k + 1, x15, x55, x111000, x111001, x111002, x111003, x112000, x112001, x112002, x112003 => if x55 = true then (if ((decide (x15 < 0)) == (Op.bytesLess x111003.toList x112003.toList)) = true then (some ((x15 == 0) == (x111003.toList == x112003.toList))) else (none)) else (if x111000 = 1 then (if ((decide (x15 < 0)) == (decide (x111001 < x112001))) = true then (some ((x15 == 0) == (x111001 == x112001))) else (none)) else (if x111000 = 2 then (if ((decide (x15 < 0)) == (decide (x111001 < x112001))) = true then (some ((x15 == 0) == (x111001 == x112001))) else (none)) else (some ((x15 == 0) == (x111000 == x112000 && (x111001 == x112001 && (x111002 == x112002 && (x111003.toList == x112003.toList))))))))
end
def federationlaw1_ValKinds.f (k : Nat) (a0 : Int) (a1 : Int) (a2 : Int) (a3 : Int) (a4 : ByteArray) (a5 : ByteArray) : Option (Bool) := (federationlaw1_known.f k).bind fun t101 => (if t101 = true then (if (a4.size : Int) > 100 then (federationlaw1_ValKinds.j0 k a0 a1 a2 a3 a4 a5 true) else (federationlaw1_ValKinds.j0 k a0 a1 a2 a3 a4 a5 (decide ((a5.size : Int) > 100)))) else (none))
set_option maxHeartbeats 8000000 in
set_option maxRecDepth 100000 in
theorem federationlaw1_ValKinds.calls (k : Nat) (a0 : Int) (a1 : Int) (a2 : Int) (a3 : Int) (a4 : ByteArray) (a5 : ByteArray) (r : Bool) (w : World) (h : federationlaw1_ValKinds.f k a0 a1 a2 a3 a4 a5 = some r) :
    Calls Try.prog 11 #[.int .i64 a0, .int .i64 a1, .int .i64 a2, .int .i64 a3, .string a4, .string a5] w fun e w' => e = .returned (.bool r) ∧ Below w.heap.size w w' := by
  have hu23 := Try.underlying23
  have HB := Aside0.mk (Below.refl w.heap.size w)
  have H : ((federationlaw1_known.f k).bind fun t101 => (if t101 = true then (if (a4.size : Int) > 100 then (federationlaw1_ValKinds.j0 k a0 a1 a2 a3 a4 a5 true) else (federationlaw1_ValKinds.j0 k a0 a1 a2 a3 a4 a5 (decide ((a5.size : Int) > 100)))) else (none))) = some r := h
  clear h
  replace H := Option.bind_eq_some_iff.mp H
  obtain ⟨t101, A70, H⟩ := H
  replace H : (if t101 = true then (if (a4.size : Int) > 100 then (federationlaw1_ValKinds.j0 k a0 a1 a2 a3 a4 a5 true) else (federationlaw1_ValKinds.j0 k a0 a1 a2 a3 a4 a5 (decide ((a5.size : Int) > 100)))) else (none)) = some r := H
  have A7 := Aside0.mk A70
  clear A70
  by_cases c8 : t101 = true
  · subst c8
    have H1 : (if (a4.size : Int) > 100 then (federationlaw1_ValKinds.j0 k a0 a1 a2 a3 a4 a5 true) else (federationlaw1_ValKinds.j0 k a0 a1 a2 a3 a4 a5 (decide ((a5.size : Int) > 100)))) = some r := by rw [if_pos rfl] at H; exact H
    clear H
    have H := H1
    clear H1
    have HC9 := Aside0.mk H
    clear H
    go_enter Try.func11, Try.ntmps11
    go_upto_region 3 with (first | ((with_reducible refine gate_callee (f := 13) rfl ?_); refine goesL_ (some 16) rfl rfl Try.func13 (by kernel_rfl) rfl #[] rfl (by (try simp only [List.map_toArray, List.map_cons, List.map_nil]); first | done | rfl | (simp only [List.length_drop, List.length_take]; rfl)) ?_; (with_reducible refine (federationlaw1_known.calls k  true _ A7.out).mono ?_); rintro e w10 ⟨rfl, hb⟩; refine ⟨_, rfl, ?_⟩; have n0_ := Aside0.mk (below_step (by repeat (first | (with_reducible first | exact HB.out | apply below_alloc | apply pw_below_drewN | apply below_drew1) | exact HB.out)) hb); clear HB; have HB := n0_; clear n0_; (try clear hb); (try clear hb2); (try clear hk); (try clear hi)))
    (try simp only [Act.put, List.setIfInBounds_toArray, List.set_cons_zero, List.set_cons_succ])
    go_cut [25] (fun v25 wc => ∃ (kq : Nat) (x25_8 : Bool), v25 = .bool x25_8 ∧ Aside0 (federationlaw1_ValKinds.j0 kq a0 a1 a2 a3 a4 a5 x25_8 = some r) ∧ Aside0 (kq ≤ k) ∧ Aside0 (Below w.heap.size w wc))
    case first =>
      have H := HC9.out
      clear HC9
      by_cases c11 : (a4.size : Int) > 100
      · rw [if_pos c11] at H
        have c11b0 : decide (100 < (a4.size : Int)) = true := decide_eq_true c11
        have c11b1 : decide (100 < a4.size) = true := decide_eq_true (by omega)
        clear c11
        (first | rw [c11b0] | (simp only [i64_w, i32_w]; rw [c11b0]) | skip)
        have H' := Aside0.mk H
        clear H
        go_wp2
        go_meet
        case rel => exact ⟨_, (true), (by first | rfl | (simp; done) | (simp [*]; done)), H', ⟨by first | omega | exact Nat.le_refl _⟩, ⟨by repeat (first | (with_reducible first | exact HB.out | apply below_alloc | apply pw_below_drewN | apply below_drew1) | exact HB.out)⟩⟩
      · rw [if_neg c11] at H
        have c11b0 : decide (100 < (a4.size : Int)) = false := decide_eq_false c11
        have c11b1 : decide (100 < a4.size) = false := decide_eq_false (by omega)
        clear c11
        (first | rw [c11b0] | (simp only [i64_w, i32_w]; rw [c11b0]) | skip)
        have H' := Aside0.mk H
        clear H
        go_wp2
        go_meet
        case rel => exact ⟨_, (decide ((a5.size : Int) > 100)), (by first | rfl | (simp; done) | (simp [*]; done)), H', ⟨by first | omega | exact Nat.le_refl _⟩, ⟨by repeat (first | (with_reducible first | exact HB.out | apply below_alloc | apply pw_below_drewN | apply below_drew1) | exact HB.out)⟩⟩
    case rest =>
      clear HC9
      try clear c1
      try clear p2
      try clear c8
      try clear c11
      try clear c11b0
      try clear c11b1
      obtain ⟨kq, x25_8, rfl, HA, HJ8, HB⟩ := hcut
      cases kq with
      | zero => exact absurd HA.out (by simp [federationlaw1_ValKinds.j0])
      | succ kj8 =>
        have H := HA.out
        clear HA
        simp only [federationlaw1_ValKinds.j0] at H
        by_cases c12 : x25_8 = true
        · subst c12
          have H1 : (some true) = some r := by rw [if_pos rfl] at H; exact H
          clear H
          have H := H1
          clear H1
          obtain rfl := Option.some.inj H
          go_wp2
          go_ret
          exact ⟨by first | rfl | (simp [errW_none, errW_some] <;> rfl) | (simp [*, errW_none, errW_some] <;> rfl), by repeat (first | (with_reducible first | exact HB.out | apply below_alloc | apply pw_below_drewN | apply below_drew1) | exact HB.out)⟩
        · replace c12 := Bool.eq_false_iff.mpr c12
          subst c12
          have H1 : ((federationlaw1_Make.f kj8 a0 a1 a4).bind fun bt102 => ((federationlaw1_Make.f kj8 a2 a3 a5).bind fun bt106 => ((val_Order.f kj8 bt102.1 bt102.2.1 bt102.2.2.1 bt102.2.2.2 bt106.1 bt106.2.1 bt106.2.2.1 bt106.2.2.2).bind fun t112 => (if bt102.1 = bt106.1 then (if bt102.1 = 4 then (federationlaw1_ValKinds.j1 kj8 t112 true bt102.1 bt102.2.1 bt102.2.2.1 bt102.2.2.2 bt106.1 bt106.2.1 bt106.2.2.1 bt106.2.2.2) else (federationlaw1_ValKinds.j1 kj8 t112 (bt102.1 == 5) bt102.1 bt102.2.1 bt102.2.2.1 bt102.2.2.2 bt106.1 bt106.2.1 bt106.2.2.1 bt106.2.2.2)) else (if ((decide (t112 < 0)) == (decide (bt102.1 < bt106.1))) = true then (some (t112 != 0)) else (none)))))) = some r := by rw [if_neg (show ¬ (false = true) by decide)] at H; exact H
          clear H
          have H := H1
          clear H1
          replace H := Option.bind_eq_some_iff.mp H
          obtain ⟨⟨t102, t103, t104, t105⟩, A130, H⟩ := H
          replace H : ((federationlaw1_Make.f kj8 a2 a3 a5).bind fun bt106 => ((val_Order.f kj8 t102 t103 t104 t105 bt106.1 bt106.2.1 bt106.2.2.1 bt106.2.2.2).bind fun t112 => (if t102 = bt106.1 then (if t102 = 4 then (federationlaw1_ValKinds.j1 kj8 t112 true t102 t103 t104 t105 bt106.1 bt106.2.1 bt106.2.2.1 bt106.2.2.2) else (federationlaw1_ValKinds.j1 kj8 t112 (t102 == 5) t102 t103 t104 t105 bt106.1 bt106.2.1 bt106.2.2.1 bt106.2.2.2)) else (if ((decide (t112 < 0)) == (decide (t102 < bt106.1))) = true then (some (t112 != 0)) else (none))))) = some r := H
          have A13 := Aside0.mk A130
          clear A130
          replace H := Option.bind_eq_some_iff.mp H
          obtain ⟨⟨t106, t107, t108, t109⟩, A140, H⟩ := H
          replace H : ((val_Order.f kj8 t102 t103 t104 t105 t106 t107 t108 t109).bind fun t112 => (if t102 = t106 then (if t102 = 4 then (federationlaw1_ValKinds.j1 kj8 t112 true t102 t103 t104 t105 t106 t107 t108 t109) else (federationlaw1_ValKinds.j1 kj8 t112 (t102 == 5) t102 t103 t104 t105 t106 t107 t108 t109)) else (if ((decide (t112 < 0)) == (decide (t102 < t106))) = true then (some (t112 != 0)) else (none)))) = some r := H
          have A14 := Aside0.mk A140
          clear A140
          replace H := Option.bind_eq_some_iff.mp H
          obtain ⟨t112, A150, H⟩ := H
          replace H : (if t102 = t106 then (if t102 = 4 then (federationlaw1_ValKinds.j1 kj8 t112 true t102 t103 t104 t105 t106 t107 t108 t109) else (federationlaw1_ValKinds.j1 kj8 t112 (t102 == 5) t102 t103 t104 t105 t106 t107 t108 t109)) else (if ((decide (t112 < 0)) == (decide (t102 < t106))) = true then (some (t112 != 0)) else (none))) = some r := H
          have A15 := Aside0.mk A150
          clear A150
          by_cases c16 : t102 = t106
          · rw [if_pos c16] at H
            have c16b0 : (t102 == t106) = true := beq_iff_eq.mpr c16
            have c16b1 : (t102 != t106) = false := bne_eq_false_iff_eq.mpr c16
            clear c16
            have HC17 := Aside0.mk H
            clear H
            go_upto_region 9 with (first | ((with_reducible refine gate_callee (f := 14) rfl ?_); refine goesL_ (some 29) rfl rfl Try.func14 (by kernel_rfl) rfl #[.int .i64 a0, .int .i64 a1, .string a4] rfl (by (try simp only [List.map_toArray, List.map_cons, List.map_nil]); first | done | rfl | (simp only [List.length_drop, List.length_take]; rfl)) ?_; (with_reducible refine (federationlaw1_Make.calls kj8 a0 a1 a4 t102 t103 t104 t105 _ A13.out).mono ?_); rintro e w18 ⟨rfl, hb⟩; refine ⟨_, rfl, ?_⟩; have n0_ := Aside0.mk (below_step (by repeat (first | (with_reducible first | exact HB.out | apply below_alloc | apply pw_below_drewN | apply below_drew1) | exact HB.out)) hb); clear HB; have HB := n0_; clear n0_; (try clear hb); (try clear hb2); (try clear hk); (try clear hi)) | ((with_reducible refine gate_callee (f := 14) rfl ?_); refine goesL_ (some 33) rfl rfl Try.func14 (by kernel_rfl) rfl #[.int .i64 a2, .int .i64 a3, .string a5] rfl (by (try simp only [List.map_toArray, List.map_cons, List.map_nil]); first | done | rfl | (simp only [List.length_drop, List.length_take]; rfl)) ?_; (with_reducible refine (federationlaw1_Make.calls kj8 a2 a3 a5 t106 t107 t108 t109 _ A14.out).mono ?_); rintro e w19 ⟨rfl, hb⟩; refine ⟨_, rfl, ?_⟩; have n0_ := Aside0.mk (below_step (by repeat (first | (with_reducible first | exact HB.out | apply below_alloc | apply pw_below_drewN | apply below_drew1) | exact HB.out)) hb); clear HB; have HB := n0_; clear n0_; (try clear hb); (try clear hb2); (try clear hk); (try clear hi)) | ((with_reducible refine gate_dst (N := 13) rfl ?_); (try (refine gate_guard (by rfl) ?_; dsimp only)); refine box_event ?hg (N := 13) ?hd (cs := #[.int .i64 0, .int .i64 0, .int .i64 0, .string (⟨#[]⟩ : ByteArray)]) (t := 23) ?hr ?_; (case hd => rfl); (case hg => rfl); (case hr => first | (go_simp; done) | (go_simp; rfl)); intro gb110 hg w20 hbox hb; have n0_ := Aside0.mk (below_step (by repeat (first | (with_reducible first | exact HB.out | apply below_alloc | apply pw_below_drewN | apply below_drew1) | exact HB.out)) hb); have n1_ := Aside0.mk (hbox); have n2_ := Aside0.mk ((by rw [hg]; exact (below_size (by repeat (first | (with_reducible first | exact HB.out | apply below_alloc | apply pw_below_drewN | apply below_drew1) | exact HB.out))) : w.heap.size ≤ gb110)); have n3_ := Aside0.mk ((by rw [hg]; exact (below_size (by repeat (first | (with_reducible first | exact HB.out | apply below_alloc | apply pw_below_drewN | apply below_drew1) | exact HB.out))) : w.heap.size ≤ gb110)); clear HB; have HB := n0_; have BK110 := n1_; have GW110 := n2_; have GE110 := n3_; clear n0_ n1_ n2_ n3_; clear hb hbox hg) | ((with_reducible refine gate_dst (N := 14) rfl ?_); (try (refine gate_guard (by rfl) ?_; dsimp only)); refine box_event ?hg (N := 14) ?hd (cs := #[.int .i64 0, .int .i64 0, .int .i64 0, .string (⟨#[]⟩ : ByteArray)]) (t := 23) ?hr ?_; (case hd => rfl); (case hg => rfl); (case hr => first | (go_simp; done) | (go_simp; rfl)); intro gb111 hg w21 hbox hb; have n0_ := Aside0.mk (blk_below (g := gb110) (o := .cells #[.int .i64 0, .int .i64 0, .int .i64 0, .string (⟨#[]⟩ : ByteArray)] 23 (0, 0)) (by (with_reducible repeat (first | refine blk_drewN ?_ _ | refine blk_drew ?_ | refine blk_alloc ?_ _)); exact BK110.out) hb); have n1_ := Aside0.mk (below_step (by repeat (first | (with_reducible first | exact HB.out | apply below_alloc | apply pw_below_drewN | apply below_drew1 | refine below_set ?_ GE110.out) | exact HB.out)) hb); have n2_ := Aside0.mk (hbox); have n3_ := Aside0.mk ((by rw [hg]; exact (below_size (by repeat (first | (with_reducible first | exact HB.out | apply below_alloc | apply pw_below_drewN | apply below_drew1 | refine below_set ?_ GE110.out) | exact HB.out))) : w.heap.size ≤ gb111)); have n4_ := Aside0.mk ((by rw [hg]; exact (below_size (by repeat (first | (with_reducible first | exact HB.out | apply below_alloc | apply pw_below_drewN | apply below_drew1 | refine below_set ?_ GE110.out) | exact HB.out))) : w.heap.size ≤ gb111)); have n5_ := Aside0.mk ((by rw [hg]; exact Nat.ne_of_lt (blk_lt (g := gb110) (o := .cells #[.int .i64 0, .int .i64 0, .int .i64 0, .string (⟨#[]⟩ : ByteArray)] 23 (0, 0)) (by (with_reducible repeat (first | refine blk_drewN ?_ _ | refine blk_drew ?_ | refine blk_alloc ?_ _)); exact BK110.out)) : gb110 ≠ gb111)); have n6_ := Aside0.mk ((by rw [hg]; exact Nat.ne_of_gt (blk_lt (g := gb110) (o := .cells #[.int .i64 0, .int .i64 0, .int .i64 0, .string (⟨#[]⟩ : ByteArray)] 23 (0, 0)) (by (with_reducible repeat (first | refine blk_drewN ?_ _ | refine blk_drew ?_ | refine blk_alloc ?_ _)); exact BK110.out)) : gb111 ≠ gb110)); clear BK110; clear HB; have BK110 := n0_; have HB := n1_; have BK111 := n2_; have GW111 := n3_; have GE111 := n4_; have NB110_111 := n5_; have NB111_110 := n6_; clear n0_ n1_ n2_ n3_ n4_ n5_ n6_; clear hb hbox hg; have hnb22 := NB110_111.out; have hnc22 := NB111_110.out; have hcz23_0 : w21.cell? ⟨gb110, 0, none⟩ = some (.int .i64 0) := (blk_cell BK110.out 0).trans rfl; have hcz23_1 : w21.cell? ⟨gb110, 1, none⟩ = some (.int .i64 0) := (blk_cell BK110.out 1).trans rfl; have hcz23_2 : w21.cell? ⟨gb110, 2, none⟩ = some (.int .i64 0) := (blk_cell BK110.out 2).trans rfl; have hcz23_3 : w21.cell? ⟨gb110, 3, none⟩ = some (.string (⟨#[]⟩ : ByteArray)) := (blk_cell BK110.out 3).trans rfl; have hfz23_0 := blk_frozen BK110.out 0; have hfz23_1 := blk_frozen BK110.out 1; have hfz23_2 := blk_frozen BK110.out 2; have hfz23_3 := blk_frozen BK110.out 3; have hcz24_0 : w21.cell? ⟨gb111, 0, none⟩ = some (.int .i64 0) := (blk_cell BK111.out 0).trans rfl; have hcz24_1 : w21.cell? ⟨gb111, 1, none⟩ = some (.int .i64 0) := (blk_cell BK111.out 1).trans rfl; have hcz24_2 : w21.cell? ⟨gb111, 2, none⟩ = some (.int .i64 0) := (blk_cell BK111.out 2).trans rfl; have hcz24_3 : w21.cell? ⟨gb111, 3, none⟩ = some (.string (⟨#[]⟩ : ByteArray)) := (blk_cell BK111.out 3).trans rfl; have hfz24_0 := blk_frozen BK111.out 0; have hfz24_1 := blk_frozen BK111.out 1; have hfz24_2 := blk_frozen BK111.out 2; have hfz24_3 := blk_frozen BK111.out 3) | ((with_reducible refine gate_callee (f := 23) rfl ?_); refine goesL_ (some 36) rfl rfl Try.func23 (by kernel_rfl) rfl #[.agg #[.int .i64 t102, .int .i64 t103, .int .i64 t104, .string t105], .agg #[.int .i64 t106, .int .i64 t107, .int .i64 t108, .string t109]] rfl (by (try simp only [List.map_toArray, List.map_cons, List.map_nil]); first | done | rfl | (simp only [List.length_drop, List.length_take]; rfl)) ?_; (with_reducible refine (val_Order.calls kj8 t102 t103 t104 t105 t106 t107 t108 t109 t112 _ A15.out).mono ?_); rintro e w25 ⟨rfl, hb⟩; refine ⟨_, rfl, ?_⟩; have n0_ := Aside0.mk (blk_below (g := gb110) (o := .cells #[.int .i64 t102, .int .i64 t103, .int .i64 t104, .string t105] 23 (0, 0)) (by (with_reducible repeat (first | refine blk_drewN ?_ _ | refine blk_drew ?_ | refine blk_alloc ?_ _)); refine blk_far ?_ NB110_111.out _; (with_reducible repeat (first | refine blk_drewN ?_ _ | refine blk_drew ?_ | refine blk_alloc ?_ _)); refine blk_far ?_ NB110_111.out _; (with_reducible repeat (first | refine blk_drewN ?_ _ | refine blk_drew ?_ | refine blk_alloc ?_ _)); refine blk_far ?_ NB110_111.out _; (with_reducible repeat (first | refine blk_drewN ?_ _ | refine blk_drew ?_ | refine blk_alloc ?_ _)); refine blk_far ?_ NB110_111.out _; (with_reducible repeat (first | refine blk_drewN ?_ _ | refine blk_drew ?_ | refine blk_alloc ?_ _)); refine blk_put (cs := #[.int .i64 t102, .int .i64 t103, .int .i64 t104, .string (⟨#[]⟩ : ByteArray)]) ?_ 3 _ rfl; (with_reducible repeat (first | refine blk_drewN ?_ _ | refine blk_drew ?_ | refine blk_alloc ?_ _)); refine blk_put (cs := #[.int .i64 t102, .int .i64 t103, .int .i64 0, .string (⟨#[]⟩ : ByteArray)]) ?_ 2 _ rfl; (with_reducible repeat (first | refine blk_drewN ?_ _ | refine blk_drew ?_ | refine blk_alloc ?_ _)); refine blk_put (cs := #[.int .i64 t102, .int .i64 0, .int .i64 0, .string (⟨#[]⟩ : ByteArray)]) ?_ 1 _ rfl; (with_reducible repeat (first | refine blk_drewN ?_ _ | refine blk_drew ?_ | refine blk_alloc ?_ _)); refine blk_put (cs := #[.int .i64 0, .int .i64 0, .int .i64 0, .string (⟨#[]⟩ : ByteArray)]) ?_ 0 _ rfl; (with_reducible repeat (first | refine blk_drewN ?_ _ | refine blk_drew ?_ | refine blk_alloc ?_ _)); exact BK110.out) hb); have n1_ := Aside0.mk (blk_below (g := gb111) (o := .cells #[.int .i64 t106, .int .i64 t107, .int .i64 t108, .string t109] 23 (0, 0)) (by (with_reducible repeat (first | refine blk_drewN ?_ _ | refine blk_drew ?_ | refine blk_alloc ?_ _)); refine blk_put (cs := #[.int .i64 t106, .int .i64 t107, .int .i64 t108, .string (⟨#[]⟩ : ByteArray)]) ?_ 3 _ rfl; (with_reducible repeat (first | refine blk_drewN ?_ _ | refine blk_drew ?_ | refine blk_alloc ?_ _)); refine blk_put (cs := #[.int .i64 t106, .int .i64 t107, .int .i64 0, .string (⟨#[]⟩ : ByteArray)]) ?_ 2 _ rfl; (with_reducible repeat (first | refine blk_drewN ?_ _ | refine blk_drew ?_ | refine blk_alloc ?_ _)); refine blk_put (cs := #[.int .i64 t106, .int .i64 0, .int .i64 0, .string (⟨#[]⟩ : ByteArray)]) ?_ 1 _ rfl; (with_reducible repeat (first | refine blk_drewN ?_ _ | refine blk_drew ?_ | refine blk_alloc ?_ _)); refine blk_put (cs := #[.int .i64 0, .int .i64 0, .int .i64 0, .string (⟨#[]⟩ : ByteArray)]) ?_ 0 _ rfl; (with_reducible repeat (first | refine blk_drewN ?_ _ | refine blk_drew ?_ | refine blk_alloc ?_ _)); refine blk_far ?_ NB111_110.out _; (with_reducible repeat (first | refine blk_drewN ?_ _ | refine blk_drew ?_ | refine blk_alloc ?_ _)); refine blk_far ?_ NB111_110.out _; (with_reducible repeat (first | refine blk_drewN ?_ _ | refine blk_drew ?_ | refine blk_alloc ?_ _)); refine blk_far ?_ NB111_110.out _; (with_reducible repeat (first | refine blk_drewN ?_ _ | refine blk_drew ?_ | refine blk_alloc ?_ _)); refine blk_far ?_ NB111_110.out _; (with_reducible repeat (first | refine blk_drewN ?_ _ | refine blk_drew ?_ | refine blk_alloc ?_ _)); exact BK111.out) hb); have n2_ := Aside0.mk (below_step (by repeat (first | (with_reducible first | exact HB.out | apply below_alloc | apply pw_below_drewN | apply below_drew1 | refine below_set ?_ GE110.out | refine below_set ?_ GE111.out) | exact HB.out)) hb); clear BK110; clear BK111; clear HB; have BK110 := n0_; have BK111 := n1_; have HB := n2_; clear n0_ n1_ n2_; (try clear hb); (try clear hb2); (try clear hk); (try clear hi); have hcz26_0 : w25.cell? ⟨gb110, 0, none⟩ = some (.int .i64 t102) := (blk_cell BK110.out 0).trans rfl; have hcz26_1 : w25.cell? ⟨gb110, 1, none⟩ = some (.int .i64 t103) := (blk_cell BK110.out 1).trans rfl; have hcz26_2 : w25.cell? ⟨gb110, 2, none⟩ = some (.int .i64 t104) := (blk_cell BK110.out 2).trans rfl; have hcz26_3 : w25.cell? ⟨gb110, 3, none⟩ = some (.string t105) := (blk_cell BK110.out 3).trans rfl; have hfz26_0 := blk_frozen BK110.out 0; have hfz26_1 := blk_frozen BK110.out 1; have hfz26_2 := blk_frozen BK110.out 2; have hfz26_3 := blk_frozen BK110.out 3; have hcz27_0 : w25.cell? ⟨gb111, 0, none⟩ = some (.int .i64 t106) := (blk_cell BK111.out 0).trans rfl; have hcz27_1 : w25.cell? ⟨gb111, 1, none⟩ = some (.int .i64 t107) := (blk_cell BK111.out 1).trans rfl; have hcz27_2 : w25.cell? ⟨gb111, 2, none⟩ = some (.int .i64 t108) := (blk_cell BK111.out 2).trans rfl; have hcz27_3 : w25.cell? ⟨gb111, 3, none⟩ = some (.string t109) := (blk_cell BK111.out 3).trans rfl; have hfz27_0 := blk_frozen BK111.out 0; have hfz27_1 := blk_frozen BK111.out 1; have hfz27_2 := blk_frozen BK111.out 2; have hfz27_3 := blk_frozen BK111.out 3))
            (try simp only [Act.put, List.setIfInBounds_toArray, List.set_cons_zero, List.set_cons_succ])
            go_cut [55] (fun v55 wc => ∃ (kq : Nat) (x55_16 : Bool), v55 = .bool x55_16 ∧ Aside0 (federationlaw1_ValKinds.j1 kq t112 x55_16 t102 t103 t104 t105 t106 t107 t108 t109 = some r) ∧ Aside0 (kq ≤ kj8) ∧ Aside0 (wc.heap[gb110]? = some (.cells #[.int .i64 t102, .int .i64 t103, .int .i64 t104, .string t105] 23 (0, 0))) ∧ Aside0 (wc.heap[gb111]? = some (.cells #[.int .i64 t106, .int .i64 t107, .int .i64 t108, .string t109] 23 (0, 0))) ∧ Aside0 (Below w.heap.size w wc))
            case first =>
              have H := HC17.out
              clear HC17
              by_cases c28 : t102 = 4
              · rw [if_pos c28] at H
                have c28b0 : (t102 == 4) = true := beq_iff_eq.mpr c28
                have c28b1 : (t102 != 4) = false := bne_eq_false_iff_eq.mpr c28
                clear c28
                (first | rw [c28b0] | (simp only [i64_w, i32_w]; rw [c28b0]) | skip)
                have H' := Aside0.mk H
                clear H
                have hnb29 := NB110_111.out
                have hnc29 := NB111_110.out
                have hcz30_0 : w25.cell? ⟨gb110, 0, none⟩ = some (.int .i64 t102) := (blk_cell BK110.out 0).trans rfl
                have hcz30_1 : w25.cell? ⟨gb110, 1, none⟩ = some (.int .i64 t103) := (blk_cell BK110.out 1).trans rfl
                have hcz30_2 : w25.cell? ⟨gb110, 2, none⟩ = some (.int .i64 t104) := (blk_cell BK110.out 2).trans rfl
                have hcz30_3 : w25.cell? ⟨gb110, 3, none⟩ = some (.string t105) := (blk_cell BK110.out 3).trans rfl
                have hfz30_0 := blk_frozen BK110.out 0
                have hfz30_1 := blk_frozen BK110.out 1
                have hfz30_2 := blk_frozen BK110.out 2
                have hfz30_3 := blk_frozen BK110.out 3
                go_wp2
                go_meet
                case rel => exact ⟨_, (true), (by first | rfl | (simp; done) | (simp [*]; done)), H', ⟨by have := HJ8.out; first | omega | exact Nat.le_refl _⟩, ⟨by (with_reducible repeat (first | refine blk_drewN ?_ _ | refine blk_drew ?_ | refine blk_alloc ?_ _)); exact BK110.out⟩, ⟨by (with_reducible repeat (first | refine blk_drewN ?_ _ | refine blk_drew ?_ | refine blk_alloc ?_ _)); exact BK111.out⟩, ⟨by repeat (first | (with_reducible first | exact HB.out | apply below_alloc | apply pw_below_drewN | apply below_drew1 | refine below_set ?_ GE110.out | refine below_set ?_ GE111.out) | exact HB.out)⟩⟩
              · rw [if_neg c28] at H
                have c28b0 : (t102 == 4) = false := beq_eq_false_iff_ne.mpr c28
                have c28b1 : (t102 != 4) = true := bne_iff_ne.mpr c28
                (first | rw [c28b0] | (simp only [i64_w, i32_w]; rw [c28b0]) | skip)
                have H' := Aside0.mk H
                clear H
                have hnb31 := NB110_111.out
                have hnc31 := NB111_110.out
                have hcz32_0 : w25.cell? ⟨gb110, 0, none⟩ = some (.int .i64 t102) := (blk_cell BK110.out 0).trans rfl
                have hcz32_1 : w25.cell? ⟨gb110, 1, none⟩ = some (.int .i64 t103) := (blk_cell BK110.out 1).trans rfl
                have hcz32_2 : w25.cell? ⟨gb110, 2, none⟩ = some (.int .i64 t104) := (blk_cell BK110.out 2).trans rfl
                have hcz32_3 : w25.cell? ⟨gb110, 3, none⟩ = some (.string t105) := (blk_cell BK110.out 3).trans rfl
                have hfz32_0 := blk_frozen BK110.out 0
                have hfz32_1 := blk_frozen BK110.out 1
                have hfz32_2 := blk_frozen BK110.out 2
                have hfz32_3 := blk_frozen BK110.out 3
                go_wp2
                go_meet
                case rel => exact ⟨_, ((t102 == 5)), (by first | rfl | (simp; done) | (simp [*]; done)), H', ⟨by have := HJ8.out; first | omega | exact Nat.le_refl _⟩, ⟨by (with_reducible repeat (first | refine blk_drewN ?_ _ | refine blk_drew ?_ | refine blk_alloc ?_ _)); exact BK110.out⟩, ⟨by (with_reducible repeat (first | refine blk_drewN ?_ _ | refine blk_drew ?_ | refine blk_alloc ?_ _)); exact BK111.out⟩, ⟨by repeat (first | (with_reducible first | exact HB.out | apply below_alloc | apply pw_below_drewN | apply below_drew1 | refine below_set ?_ GE110.out | refine below_set ?_ GE111.out) | exact HB.out)⟩⟩
            case rest =>
              clear HC17
              try clear c1
              try clear c2
              try clear p2
              try clear c3
              try clear c8
              try clear c11
              try clear c11b0
              try clear c11b1
              try clear c12
              try clear c13
              try clear c14
              try clear c16
              try clear c16b0
              try clear c16b1
              try clear c22
              try clear c23
              try clear c28
              try clear c28b0
              try clear c28b1
              try clear c29
              try clear c31
              try clear hcz23_0
              try clear hcz23_1
              try clear hcz23_2
              try clear hcz23_3
              try clear hcz24_0
              try clear hcz24_1
              try clear hcz24_2
              try clear hcz24_3
              try clear hcz26_0
              try clear hcz26_1
              try clear hcz26_2
              try clear hcz26_3
              try clear hcz27_0
              try clear hcz27_1
              try clear hcz27_2
              try clear hcz27_3
              try clear hcz30_0
              try clear hcz30_1
              try clear hcz30_2
              try clear hcz30_3
              try clear hcz32_0
              try clear hcz32_1
              try clear hcz32_2
              try clear hcz32_3
              try clear hfz23_0
              try clear hfz23_1
              try clear hfz23_2
              try clear hfz23_3
              try clear hfz24_0
              try clear hfz24_1
              try clear hfz24_2
              try clear hfz24_3
              try clear hfz26_0
              try clear hfz26_1
              try clear hfz26_2
              try clear hfz26_3
              try clear hfz27_0
              try clear hfz27_1
              try clear hfz27_2
              try clear hfz27_3
              try clear hfz30_0
              try clear hfz30_1
              try clear hfz30_2
              try clear hfz30_3
              try clear hfz32_0
              try clear hfz32_1
              try clear hfz32_2
              try clear hfz32_3
              try clear p2
              obtain ⟨kq, x55_16, rfl, HA, HJ16, BK110, BK111, HB⟩ := hcut
              cases kq with
              | zero => exact absurd HA.out (by simp [federationlaw1_ValKinds.j1])
              | succ kj16 =>
                have H := HA.out
                clear HA
                simp only [federationlaw1_ValKinds.j1] at H
                by_cases c33 : x55_16 = true
                · subst c33
                  have H1 : (if ((decide (t112 < 0)) == (Op.bytesLess t105.toList t109.toList)) = true then (some ((t112 == 0) == (t105.toList == t109.toList))) else (none)) = some r := by rw [if_pos rfl] at H; exact H
                  clear H
                  have H := H1
                  clear H1
                  by_cases c34 : ((decide (t112 < 0)) == (Op.bytesLess t105.toList t109.toList)) = true
                  · rw [if_pos c34] at H
                    have c34b0 : ((decide (t112 < 0)) == (Op.bytesLess t105.toList t109.toList)) = true := c34
                    (try (have c34b1 : decide ((decide (t112 < 0)) = (Op.bytesLess t105.toList t109.toList)) = true := by simpa using c34))
                    (try (have c34b2 : ((decide (t112 < 0)) == (Op.bytesLess t105.toList t109.toList)) = true := by simpa using c34))
                    clear c34
                    obtain rfl := Option.some.inj H
                    have hnb35 := NB110_111.out
                    have hnc35 := NB111_110.out
                    have hcz36_0 : wc.cell? ⟨gb110, 0, none⟩ = some (.int .i64 t102) := (blk_cell BK110.out 0).trans rfl
                    have hcz36_1 : wc.cell? ⟨gb110, 1, none⟩ = some (.int .i64 t103) := (blk_cell BK110.out 1).trans rfl
                    have hcz36_2 : wc.cell? ⟨gb110, 2, none⟩ = some (.int .i64 t104) := (blk_cell BK110.out 2).trans rfl
                    have hcz36_3 : wc.cell? ⟨gb110, 3, none⟩ = some (.string t105) := (blk_cell BK110.out 3).trans rfl
                    have hfz36_0 := blk_frozen BK110.out 0
                    have hfz36_1 := blk_frozen BK110.out 1
                    have hfz36_2 := blk_frozen BK110.out 2
                    have hfz36_3 := blk_frozen BK110.out 3
                    have hcz37_0 : wc.cell? ⟨gb111, 0, none⟩ = some (.int .i64 t106) := (blk_cell BK111.out 0).trans rfl
                    have hcz37_1 : wc.cell? ⟨gb111, 1, none⟩ = some (.int .i64 t107) := (blk_cell BK111.out 1).trans rfl
                    have hcz37_2 : wc.cell? ⟨gb111, 2, none⟩ = some (.int .i64 t108) := (blk_cell BK111.out 2).trans rfl
                    have hcz37_3 : wc.cell? ⟨gb111, 3, none⟩ = some (.string t109) := (blk_cell BK111.out 3).trans rfl
                    have hfz37_0 := blk_frozen BK111.out 0
                    have hfz37_1 := blk_frozen BK111.out 1
                    have hfz37_2 := blk_frozen BK111.out 2
                    have hfz37_3 := blk_frozen BK111.out 3
                    go_wp2
                    go_ret
                    exact ⟨by first | rfl | (simp [errW_none, errW_some] <;> rfl) | (simp [*, errW_none, errW_some] <;> rfl), by repeat (first | (with_reducible first | exact HB.out | apply below_alloc | apply pw_below_drewN | apply below_drew1 | refine below_set ?_ GE110.out | refine below_set ?_ GE111.out) | exact HB.out)⟩
                  · rw [if_neg c34] at H
                    exact absurd H (by simp)
                · replace c33 := Bool.eq_false_iff.mpr c33
                  subst c33
                  have H1 : (if t102 = 1 then (if ((decide (t112 < 0)) == (decide (t103 < t107))) = true then (some ((t112 == 0) == (t103 == t107))) else (none)) else (if t102 = 2 then (if ((decide (t112 < 0)) == (decide (t103 < t107))) = true then (some ((t112 == 0) == (t103 == t107))) else (none)) else (some ((t112 == 0) == (t102 == t106 && (t103 == t107 && (t104 == t108 && (t105.toList == t109.toList)))))))) = some r := by rw [if_neg (show ¬ (false = true) by decide)] at H; exact H
                  clear H
                  have H := H1
                  clear H1
                  by_cases c38 : t102 = 1
                  · rw [if_pos c38] at H
                    have c38b0 : (t102 == 1) = true := beq_iff_eq.mpr c38
                    have c38b1 : (t102 != 1) = false := bne_eq_false_iff_eq.mpr c38
                    clear c38
                    by_cases c39 : ((decide (t112 < 0)) == (decide (t103 < t107))) = true
                    · rw [if_pos c39] at H
                      have c39b0 : ((decide (t112 < 0)) == (decide (t103 < t107))) = true := c39
                      (try (have c39b1 : decide ((decide (t112 < 0)) = (decide (t103 < t107))) = true := by simpa using c39))
                      (try (have c39b2 : ((decide (t112 < 0)) == (decide (t103 < t107))) = true := by simpa using c39))
                      clear c39
                      obtain rfl := Option.some.inj H
                      have hnb40 := NB110_111.out
                      have hnc40 := NB111_110.out
                      have hcz41_0 : wc.cell? ⟨gb110, 0, none⟩ = some (.int .i64 t102) := (blk_cell BK110.out 0).trans rfl
                      have hcz41_1 : wc.cell? ⟨gb110, 1, none⟩ = some (.int .i64 t103) := (blk_cell BK110.out 1).trans rfl
                      have hcz41_2 : wc.cell? ⟨gb110, 2, none⟩ = some (.int .i64 t104) := (blk_cell BK110.out 2).trans rfl
                      have hcz41_3 : wc.cell? ⟨gb110, 3, none⟩ = some (.string t105) := (blk_cell BK110.out 3).trans rfl
                      have hfz41_0 := blk_frozen BK110.out 0
                      have hfz41_1 := blk_frozen BK110.out 1
                      have hfz41_2 := blk_frozen BK110.out 2
                      have hfz41_3 := blk_frozen BK110.out 3
                      have hcz42_0 : wc.cell? ⟨gb111, 0, none⟩ = some (.int .i64 t106) := (blk_cell BK111.out 0).trans rfl
                      have hcz42_1 : wc.cell? ⟨gb111, 1, none⟩ = some (.int .i64 t107) := (blk_cell BK111.out 1).trans rfl
                      have hcz42_2 : wc.cell? ⟨gb111, 2, none⟩ = some (.int .i64 t108) := (blk_cell BK111.out 2).trans rfl
                      have hcz42_3 : wc.cell? ⟨gb111, 3, none⟩ = some (.string t109) := (blk_cell BK111.out 3).trans rfl
                      have hfz42_0 := blk_frozen BK111.out 0
                      have hfz42_1 := blk_frozen BK111.out 1
                      have hfz42_2 := blk_frozen BK111.out 2
                      have hfz42_3 := blk_frozen BK111.out 3
                      go_wp2
                      go_ret
                      exact ⟨by first | rfl | (simp [errW_none, errW_some] <;> rfl) | (simp [*, errW_none, errW_some] <;> rfl), by repeat (first | (with_reducible first | exact HB.out | apply below_alloc | apply pw_below_drewN | apply below_drew1 | refine below_set ?_ GE110.out | refine below_set ?_ GE111.out) | exact HB.out)⟩
                    · rw [if_neg c39] at H
                      exact absurd H (by simp)
                  · rw [if_neg c38] at H
                    have c38b0 : (t102 == 1) = false := beq_eq_false_iff_ne.mpr c38
                    have c38b1 : (t102 != 1) = true := bne_iff_ne.mpr c38
                    by_cases c43 : t102 = 2
                    · rw [if_pos c43] at H
                      have c43b0 : (t102 == 2) = true := beq_iff_eq.mpr c43
                      have c43b1 : (t102 != 2) = false := bne_eq_false_iff_eq.mpr c43
                      clear c43
                      by_cases c44 : ((decide (t112 < 0)) == (decide (t103 < t107))) = true
                      · rw [if_pos c44] at H
                        have c44b0 : ((decide (t112 < 0)) == (decide (t103 < t107))) = true := c44
                        (try (have c44b1 : decide ((decide (t112 < 0)) = (decide (t103 < t107))) = true := by simpa using c44))
                        (try (have c44b2 : ((decide (t112 < 0)) == (decide (t103 < t107))) = true := by simpa using c44))
                        clear c44
                        obtain rfl := Option.some.inj H
                        have hnb45 := NB110_111.out
                        have hnc45 := NB111_110.out
                        have hcz46_0 : wc.cell? ⟨gb110, 0, none⟩ = some (.int .i64 t102) := (blk_cell BK110.out 0).trans rfl
                        have hcz46_1 : wc.cell? ⟨gb110, 1, none⟩ = some (.int .i64 t103) := (blk_cell BK110.out 1).trans rfl
                        have hcz46_2 : wc.cell? ⟨gb110, 2, none⟩ = some (.int .i64 t104) := (blk_cell BK110.out 2).trans rfl
                        have hcz46_3 : wc.cell? ⟨gb110, 3, none⟩ = some (.string t105) := (blk_cell BK110.out 3).trans rfl
                        have hfz46_0 := blk_frozen BK110.out 0
                        have hfz46_1 := blk_frozen BK110.out 1
                        have hfz46_2 := blk_frozen BK110.out 2
                        have hfz46_3 := blk_frozen BK110.out 3
                        have hcz47_0 : wc.cell? ⟨gb111, 0, none⟩ = some (.int .i64 t106) := (blk_cell BK111.out 0).trans rfl
                        have hcz47_1 : wc.cell? ⟨gb111, 1, none⟩ = some (.int .i64 t107) := (blk_cell BK111.out 1).trans rfl
                        have hcz47_2 : wc.cell? ⟨gb111, 2, none⟩ = some (.int .i64 t108) := (blk_cell BK111.out 2).trans rfl
                        have hcz47_3 : wc.cell? ⟨gb111, 3, none⟩ = some (.string t109) := (blk_cell BK111.out 3).trans rfl
                        have hfz47_0 := blk_frozen BK111.out 0
                        have hfz47_1 := blk_frozen BK111.out 1
                        have hfz47_2 := blk_frozen BK111.out 2
                        have hfz47_3 := blk_frozen BK111.out 3
                        go_wp2
                        go_ret
                        exact ⟨by first | rfl | (simp [errW_none, errW_some] <;> rfl) | (simp [*, errW_none, errW_some] <;> rfl), by repeat (first | (with_reducible first | exact HB.out | apply below_alloc | apply pw_below_drewN | apply below_drew1 | refine below_set ?_ GE110.out | refine below_set ?_ GE111.out) | exact HB.out)⟩
                      · rw [if_neg c44] at H
                        exact absurd H (by simp)
                    · rw [if_neg c43] at H
                      have c43b0 : (t102 == 2) = false := beq_eq_false_iff_ne.mpr c43
                      have c43b1 : (t102 != 2) = true := bne_iff_ne.mpr c43
                      obtain rfl := Option.some.inj H
                      have hnb48 := NB110_111.out
                      have hnc48 := NB111_110.out
                      have hcz49_0 : wc.cell? ⟨gb110, 0, none⟩ = some (.int .i64 t102) := (blk_cell BK110.out 0).trans rfl
                      have hcz49_1 : wc.cell? ⟨gb110, 1, none⟩ = some (.int .i64 t103) := (blk_cell BK110.out 1).trans rfl
                      have hcz49_2 : wc.cell? ⟨gb110, 2, none⟩ = some (.int .i64 t104) := (blk_cell BK110.out 2).trans rfl
                      have hcz49_3 : wc.cell? ⟨gb110, 3, none⟩ = some (.string t105) := (blk_cell BK110.out 3).trans rfl
                      have hfz49_0 := blk_frozen BK110.out 0
                      have hfz49_1 := blk_frozen BK110.out 1
                      have hfz49_2 := blk_frozen BK110.out 2
                      have hfz49_3 := blk_frozen BK110.out 3
                      have hcz50_0 : wc.cell? ⟨gb111, 0, none⟩ = some (.int .i64 t106) := (blk_cell BK111.out 0).trans rfl
                      have hcz50_1 : wc.cell? ⟨gb111, 1, none⟩ = some (.int .i64 t107) := (blk_cell BK111.out 1).trans rfl
                      have hcz50_2 : wc.cell? ⟨gb111, 2, none⟩ = some (.int .i64 t108) := (blk_cell BK111.out 2).trans rfl
                      have hcz50_3 : wc.cell? ⟨gb111, 3, none⟩ = some (.string t109) := (blk_cell BK111.out 3).trans rfl
                      have hfz50_0 := blk_frozen BK111.out 0
                      have hfz50_1 := blk_frozen BK111.out 1
                      have hfz50_2 := blk_frozen BK111.out 2
                      have hfz50_3 := blk_frozen BK111.out 3
                      go_wp2
                      go_ret
                      exact ⟨by first | rfl | (simp [errW_none, errW_some] <;> rfl) | (simp [*, errW_none, errW_some] <;> rfl), by repeat (first | (with_reducible first | exact HB.out | apply below_alloc | apply pw_below_drewN | apply below_drew1 | refine below_set ?_ GE110.out | refine below_set ?_ GE111.out) | exact HB.out)⟩
          · rw [if_neg c16] at H
            have c16b0 : (t102 == t106) = false := beq_eq_false_iff_ne.mpr c16
            have c16b1 : (t102 != t106) = true := bne_iff_ne.mpr c16
            by_cases c51 : ((decide (t112 < 0)) == (decide (t102 < t106))) = true
            · rw [if_pos c51] at H
              have c51b0 : ((decide (t112 < 0)) == (decide (t102 < t106))) = true := c51
              (try (have c51b1 : decide ((decide (t112 < 0)) = (decide (t102 < t106))) = true := by simpa using c51))
              (try (have c51b2 : ((decide (t112 < 0)) == (decide (t102 < t106))) = true := by simpa using c51))
              clear c51
              obtain rfl := Option.some.inj H
              go_wp2_with (first | ((with_reducible refine gate_callee (f := 14) rfl ?_); refine goesL_ (some 29) rfl rfl Try.func14 (by kernel_rfl) rfl #[.int .i64 a0, .int .i64 a1, .string a4] rfl (by (try simp only [List.map_toArray, List.map_cons, List.map_nil]); first | done | rfl | (simp only [List.length_drop, List.length_take]; rfl)) ?_; (with_reducible refine (federationlaw1_Make.calls kj8 a0 a1 a4 t102 t103 t104 t105 _ A13.out).mono ?_); rintro e w52 ⟨rfl, hb⟩; refine ⟨_, rfl, ?_⟩; have n0_ := Aside0.mk (below_step (by repeat (first | (with_reducible first | exact HB.out | apply below_alloc | apply pw_below_drewN | apply below_drew1) | exact HB.out)) hb); clear HB; have HB := n0_; clear n0_; (try clear hb); (try clear hb2); (try clear hk); (try clear hi)) | ((with_reducible refine gate_callee (f := 14) rfl ?_); refine goesL_ (some 33) rfl rfl Try.func14 (by kernel_rfl) rfl #[.int .i64 a2, .int .i64 a3, .string a5] rfl (by (try simp only [List.map_toArray, List.map_cons, List.map_nil]); first | done | rfl | (simp only [List.length_drop, List.length_take]; rfl)) ?_; (with_reducible refine (federationlaw1_Make.calls kj8 a2 a3 a5 t106 t107 t108 t109 _ A14.out).mono ?_); rintro e w53 ⟨rfl, hb⟩; refine ⟨_, rfl, ?_⟩; have n0_ := Aside0.mk (below_step (by repeat (first | (with_reducible first | exact HB.out | apply below_alloc | apply pw_below_drewN | apply below_drew1) | exact HB.out)) hb); clear HB; have HB := n0_; clear n0_; (try clear hb); (try clear hb2); (try clear hk); (try clear hi)) | ((with_reducible refine gate_dst (N := 13) rfl ?_); (try (refine gate_guard (by rfl) ?_; dsimp only)); refine box_event ?hg (N := 13) ?hd (cs := #[.int .i64 0, .int .i64 0, .int .i64 0, .string (⟨#[]⟩ : ByteArray)]) (t := 23) ?hr ?_; (case hd => rfl); (case hg => rfl); (case hr => first | (go_simp; done) | (go_simp; rfl)); intro gb110 hg w54 hbox hb; have n0_ := Aside0.mk (below_step (by repeat (first | (with_reducible first | exact HB.out | apply below_alloc | apply pw_below_drewN | apply below_drew1) | exact HB.out)) hb); have n1_ := Aside0.mk (hbox); have n2_ := Aside0.mk ((by rw [hg]; exact (below_size (by repeat (first | (with_reducible first | exact HB.out | apply below_alloc | apply pw_below_drewN | apply below_drew1) | exact HB.out))) : w.heap.size ≤ gb110)); have n3_ := Aside0.mk ((by rw [hg]; exact (below_size (by repeat (first | (with_reducible first | exact HB.out | apply below_alloc | apply pw_below_drewN | apply below_drew1) | exact HB.out))) : w.heap.size ≤ gb110)); clear HB; have HB := n0_; have BK110 := n1_; have GW110 := n2_; have GE110 := n3_; clear n0_ n1_ n2_ n3_; clear hb hbox hg) | ((with_reducible refine gate_dst (N := 14) rfl ?_); (try (refine gate_guard (by rfl) ?_; dsimp only)); refine box_event ?hg (N := 14) ?hd (cs := #[.int .i64 0, .int .i64 0, .int .i64 0, .string (⟨#[]⟩ : ByteArray)]) (t := 23) ?hr ?_; (case hd => rfl); (case hg => rfl); (case hr => first | (go_simp; done) | (go_simp; rfl)); intro gb111 hg w55 hbox hb; have n0_ := Aside0.mk (blk_below (g := gb110) (o := .cells #[.int .i64 0, .int .i64 0, .int .i64 0, .string (⟨#[]⟩ : ByteArray)] 23 (0, 0)) (by (with_reducible repeat (first | refine blk_drewN ?_ _ | refine blk_drew ?_ | refine blk_alloc ?_ _)); exact BK110.out) hb); have n1_ := Aside0.mk (below_step (by repeat (first | (with_reducible first | exact HB.out | apply below_alloc | apply pw_below_drewN | apply below_drew1 | refine below_set ?_ GE110.out) | exact HB.out)) hb); have n2_ := Aside0.mk (hbox); have n3_ := Aside0.mk ((by rw [hg]; exact (below_size (by repeat (first | (with_reducible first | exact HB.out | apply below_alloc | apply pw_below_drewN | apply below_drew1 | refine below_set ?_ GE110.out) | exact HB.out))) : w.heap.size ≤ gb111)); have n4_ := Aside0.mk ((by rw [hg]; exact (below_size (by repeat (first | (with_reducible first | exact HB.out | apply below_alloc | apply pw_below_drewN | apply below_drew1 | refine below_set ?_ GE110.out) | exact HB.out))) : w.heap.size ≤ gb111)); have n5_ := Aside0.mk ((by rw [hg]; exact Nat.ne_of_lt (blk_lt (g := gb110) (o := .cells #[.int .i64 0, .int .i64 0, .int .i64 0, .string (⟨#[]⟩ : ByteArray)] 23 (0, 0)) (by (with_reducible repeat (first | refine blk_drewN ?_ _ | refine blk_drew ?_ | refine blk_alloc ?_ _)); exact BK110.out)) : gb110 ≠ gb111)); have n6_ := Aside0.mk ((by rw [hg]; exact Nat.ne_of_gt (blk_lt (g := gb110) (o := .cells #[.int .i64 0, .int .i64 0, .int .i64 0, .string (⟨#[]⟩ : ByteArray)] 23 (0, 0)) (by (with_reducible repeat (first | refine blk_drewN ?_ _ | refine blk_drew ?_ | refine blk_alloc ?_ _)); exact BK110.out)) : gb111 ≠ gb110)); clear BK110; clear HB; have BK110 := n0_; have HB := n1_; have BK111 := n2_; have GW111 := n3_; have GE111 := n4_; have NB110_111 := n5_; have NB111_110 := n6_; clear n0_ n1_ n2_ n3_ n4_ n5_ n6_; clear hb hbox hg; have hnb56 := NB110_111.out; have hnc56 := NB111_110.out; have hcz57_0 : w55.cell? ⟨gb110, 0, none⟩ = some (.int .i64 0) := (blk_cell BK110.out 0).trans rfl; have hcz57_1 : w55.cell? ⟨gb110, 1, none⟩ = some (.int .i64 0) := (blk_cell BK110.out 1).trans rfl; have hcz57_2 : w55.cell? ⟨gb110, 2, none⟩ = some (.int .i64 0) := (blk_cell BK110.out 2).trans rfl; have hcz57_3 : w55.cell? ⟨gb110, 3, none⟩ = some (.string (⟨#[]⟩ : ByteArray)) := (blk_cell BK110.out 3).trans rfl; have hfz57_0 := blk_frozen BK110.out 0; have hfz57_1 := blk_frozen BK110.out 1; have hfz57_2 := blk_frozen BK110.out 2; have hfz57_3 := blk_frozen BK110.out 3; have hcz58_0 : w55.cell? ⟨gb111, 0, none⟩ = some (.int .i64 0) := (blk_cell BK111.out 0).trans rfl; have hcz58_1 : w55.cell? ⟨gb111, 1, none⟩ = some (.int .i64 0) := (blk_cell BK111.out 1).trans rfl; have hcz58_2 : w55.cell? ⟨gb111, 2, none⟩ = some (.int .i64 0) := (blk_cell BK111.out 2).trans rfl; have hcz58_3 : w55.cell? ⟨gb111, 3, none⟩ = some (.string (⟨#[]⟩ : ByteArray)) := (blk_cell BK111.out 3).trans rfl; have hfz58_0 := blk_frozen BK111.out 0; have hfz58_1 := blk_frozen BK111.out 1; have hfz58_2 := blk_frozen BK111.out 2; have hfz58_3 := blk_frozen BK111.out 3) | ((with_reducible refine gate_callee (f := 23) rfl ?_); refine goesL_ (some 36) rfl rfl Try.func23 (by kernel_rfl) rfl #[.agg #[.int .i64 t102, .int .i64 t103, .int .i64 t104, .string t105], .agg #[.int .i64 t106, .int .i64 t107, .int .i64 t108, .string t109]] rfl (by (try simp only [List.map_toArray, List.map_cons, List.map_nil]); first | done | rfl | (simp only [List.length_drop, List.length_take]; rfl)) ?_; (with_reducible refine (val_Order.calls kj8 t102 t103 t104 t105 t106 t107 t108 t109 t112 _ A15.out).mono ?_); rintro e w59 ⟨rfl, hb⟩; refine ⟨_, rfl, ?_⟩; have n0_ := Aside0.mk (blk_below (g := gb110) (o := .cells #[.int .i64 t102, .int .i64 t103, .int .i64 t104, .string t105] 23 (0, 0)) (by (with_reducible repeat (first | refine blk_drewN ?_ _ | refine blk_drew ?_ | refine blk_alloc ?_ _)); refine blk_far ?_ NB110_111.out _; (with_reducible repeat (first | refine blk_drewN ?_ _ | refine blk_drew ?_ | refine blk_alloc ?_ _)); refine blk_far ?_ NB110_111.out _; (with_reducible repeat (first | refine blk_drewN ?_ _ | refine blk_drew ?_ | refine blk_alloc ?_ _)); refine blk_far ?_ NB110_111.out _; (with_reducible repeat (first | refine blk_drewN ?_ _ | refine blk_drew ?_ | refine blk_alloc ?_ _)); refine blk_far ?_ NB110_111.out _; (with_reducible repeat (first | refine blk_drewN ?_ _ | refine blk_drew ?_ | refine blk_alloc ?_ _)); refine blk_put (cs := #[.int .i64 t102, .int .i64 t103, .int .i64 t104, .string (⟨#[]⟩ : ByteArray)]) ?_ 3 _ rfl; (with_reducible repeat (first | refine blk_drewN ?_ _ | refine blk_drew ?_ | refine blk_alloc ?_ _)); refine blk_put (cs := #[.int .i64 t102, .int .i64 t103, .int .i64 0, .string (⟨#[]⟩ : ByteArray)]) ?_ 2 _ rfl; (with_reducible repeat (first | refine blk_drewN ?_ _ | refine blk_drew ?_ | refine blk_alloc ?_ _)); refine blk_put (cs := #[.int .i64 t102, .int .i64 0, .int .i64 0, .string (⟨#[]⟩ : ByteArray)]) ?_ 1 _ rfl; (with_reducible repeat (first | refine blk_drewN ?_ _ | refine blk_drew ?_ | refine blk_alloc ?_ _)); refine blk_put (cs := #[.int .i64 0, .int .i64 0, .int .i64 0, .string (⟨#[]⟩ : ByteArray)]) ?_ 0 _ rfl; (with_reducible repeat (first | refine blk_drewN ?_ _ | refine blk_drew ?_ | refine blk_alloc ?_ _)); exact BK110.out) hb); have n1_ := Aside0.mk (blk_below (g := gb111) (o := .cells #[.int .i64 t106, .int .i64 t107, .int .i64 t108, .string t109] 23 (0, 0)) (by (with_reducible repeat (first | refine blk_drewN ?_ _ | refine blk_drew ?_ | refine blk_alloc ?_ _)); refine blk_put (cs := #[.int .i64 t106, .int .i64 t107, .int .i64 t108, .string (⟨#[]⟩ : ByteArray)]) ?_ 3 _ rfl; (with_reducible repeat (first | refine blk_drewN ?_ _ | refine blk_drew ?_ | refine blk_alloc ?_ _)); refine blk_put (cs := #[.int .i64 t106, .int .i64 t107, .int .i64 0, .string (⟨#[]⟩ : ByteArray)]) ?_ 2 _ rfl; (with_reducible repeat (first | refine blk_drewN ?_ _ | refine blk_drew ?_ | refine blk_alloc ?_ _)); refine blk_put (cs := #[.int .i64 t106, .int .i64 0, .int .i64 0, .string (⟨#[]⟩ : ByteArray)]) ?_ 1 _ rfl; (with_reducible repeat (first | refine blk_drewN ?_ _ | refine blk_drew ?_ | refine blk_alloc ?_ _)); refine blk_put (cs := #[.int .i64 0, .int .i64 0, .int .i64 0, .string (⟨#[]⟩ : ByteArray)]) ?_ 0 _ rfl; (with_reducible repeat (first | refine blk_drewN ?_ _ | refine blk_drew ?_ | refine blk_alloc ?_ _)); refine blk_far ?_ NB111_110.out _; (with_reducible repeat (first | refine blk_drewN ?_ _ | refine blk_drew ?_ | refine blk_alloc ?_ _)); refine blk_far ?_ NB111_110.out _; (with_reducible repeat (first | refine blk_drewN ?_ _ | refine blk_drew ?_ | refine blk_alloc ?_ _)); refine blk_far ?_ NB111_110.out _; (with_reducible repeat (first | refine blk_drewN ?_ _ | refine blk_drew ?_ | refine blk_alloc ?_ _)); refine blk_far ?_ NB111_110.out _; (with_reducible repeat (first | refine blk_drewN ?_ _ | refine blk_drew ?_ | refine blk_alloc ?_ _)); exact BK111.out) hb); have n2_ := Aside0.mk (below_step (by repeat (first | (with_reducible first | exact HB.out | apply below_alloc | apply pw_below_drewN | apply below_drew1 | refine below_set ?_ GE110.out | refine below_set ?_ GE111.out) | exact HB.out)) hb); clear BK110; clear BK111; clear HB; have BK110 := n0_; have BK111 := n1_; have HB := n2_; clear n0_ n1_ n2_; (try clear hb); (try clear hb2); (try clear hk); (try clear hi); have hcz60_0 : w59.cell? ⟨gb110, 0, none⟩ = some (.int .i64 t102) := (blk_cell BK110.out 0).trans rfl; have hcz60_1 : w59.cell? ⟨gb110, 1, none⟩ = some (.int .i64 t103) := (blk_cell BK110.out 1).trans rfl; have hcz60_2 : w59.cell? ⟨gb110, 2, none⟩ = some (.int .i64 t104) := (blk_cell BK110.out 2).trans rfl; have hcz60_3 : w59.cell? ⟨gb110, 3, none⟩ = some (.string t105) := (blk_cell BK110.out 3).trans rfl; have hfz60_0 := blk_frozen BK110.out 0; have hfz60_1 := blk_frozen BK110.out 1; have hfz60_2 := blk_frozen BK110.out 2; have hfz60_3 := blk_frozen BK110.out 3; have hcz61_0 : w59.cell? ⟨gb111, 0, none⟩ = some (.int .i64 t106) := (blk_cell BK111.out 0).trans rfl; have hcz61_1 : w59.cell? ⟨gb111, 1, none⟩ = some (.int .i64 t107) := (blk_cell BK111.out 1).trans rfl; have hcz61_2 : w59.cell? ⟨gb111, 2, none⟩ = some (.int .i64 t108) := (blk_cell BK111.out 2).trans rfl; have hcz61_3 : w59.cell? ⟨gb111, 3, none⟩ = some (.string t109) := (blk_cell BK111.out 3).trans rfl; have hfz61_0 := blk_frozen BK111.out 0; have hfz61_1 := blk_frozen BK111.out 1; have hfz61_2 := blk_frozen BK111.out 2; have hfz61_3 := blk_frozen BK111.out 3))
              go_ret
              exact ⟨by first | rfl | (simp [errW_none, errW_some] <;> rfl) | (simp [*, errW_none, errW_some] <;> rfl), by repeat (first | (with_reducible first | exact HB.out | apply below_alloc | apply pw_below_drewN | apply below_drew1 | refine below_set ?_ GE110.out | refine below_set ?_ GE111.out) | exact HB.out)⟩
            · rw [if_neg c51] at H
              exact absurd H (by simp)
  · replace c8 := Bool.eq_false_iff.mpr c8
    subst c8
    have H1 : (none) = some r := by rw [if_neg (show ¬ (false = true) by decide)] at H; exact H
    clear H
    have H := H1
    clear H1
    exact absurd H (by simp)
def federationlaw1_ValKinds.Pure : Prop := ∀ (a0 : Int) (a1 : Int) (a2 : Int) (a3 : Int) (a4 : ByteArray) (a5 : ByteArray), (Lit.int .i64 a0).wf = true → (Lit.int .i64 a1).wf = true → (Lit.int .i64 a2).wf = true → (Lit.int .i64 a3).wf = true → a4.size ≤ 140737488351232 → a5.size ≤ 140737488351232 → ∃ k, federationlaw1_ValKinds.f k a0 a1 a2 a3 a4 a5 = some true
theorem federationlaw1_ValKinds.walk (P : federationlaw1_ValKinds.Pure) (a0 : Int) (a1 : Int) (a2 : Int) (a3 : Int) (a4 : ByteArray) (a5 : ByteArray) (w : World) (w0 : (Lit.int .i64 a0).wf = true) (w1 : (Lit.int .i64 a1).wf = true) (w2 : (Lit.int .i64 a2).wf = true) (w3 : (Lit.int .i64 a3).wf = true) (w4 : a4.size ≤ 140737488351232) (w5 : a5.size ≤ 140737488351232) :
    Calls Try.prog 11 #[.int .i64 a0, .int .i64 a1, .int .i64 a2, .int .i64 a3, .string a4, .string a5] w fun e w' => e = .returned (.bool true) ∧ Below w.heap.size w w' := by
  obtain ⟨k, h⟩ := P a0 a1 a2 a3 a4 a5 w0 w1 w2 w3 w4 w5
  refine (federationlaw1_ValKinds.calls k a0 a1 a2 a3 a4 a5 true w h).mono ?_
  rintro e w' ⟨rfl, hd⟩
  exact ⟨rfl, hd⟩
end Go.Proofs.Ytllkhdhanheieaa.U
namespace Go.Proofs.Ytllkhdhanheieaa.U
open Go.RowKit Go.Proofs.YtllkhdhanheieaaW.PrintWords Go.Proofs.YtllkhdhanheieaaW.PrintLast Go.Proofs.YtllkhdhanheieaaW.PrintMore
attribute [local go_sem] max2_int min2_int max_two min_two max_three min_three max_four min_four
attribute [local go_sem high] own_gtr own_leq own_geq own_cell_set Option.map_some fld23_1
set_option linter.unusedVariables false
set_option linter.unusedSimpArgs false
theorem wrap64_of {x : Int} (h0 : -9223372036854775808 ≤ x) (h1 : x ≤ 9223372036854775807) : wrap64 x = x := by
  unfold wrap64; omega
def p10 (n : Nat) : Int := (10 : Int) ^ n
theorem p10_pos (n : Nat) : 0 < p10 n := Int.pow_pos (by decide)
theorem p10_zero : p10 0 = 1 := rfl
theorem p10_succ (n : Nat) : p10 (n + 1) = p10 n * 10 := by unfold p10; rw [Int.pow_succ]
theorem p10_mono {m n : Nat} (h : m ≤ n) : p10 m ≤ p10 n := by
  induction h with
  | refl => exact Int.le_refl _
  | step _ ih => rw [p10_succ]; have := p10_pos m; omega
theorem p10_le (n : Nat) (h : n ≤ 18) : p10 n ≤ 1000000000000000000 := by
  have := p10_mono h
  have e : p10 18 = 1000000000000000000 := by decide
  omega
theorem p10_six : p10 6 = 1000000 := by decide
theorem p10_add (m n : Nat) : p10 (m + n) = p10 m * p10 n := by unfold p10; rw [Int.pow_add]
theorem val_ten_l0 : ∀ (d : Nat) (k i : Nat), d < k → i + d ≤ 18 → val_ten.l0 k (p10 i) ((i + d : Nat) : Int) (i : Int) = some (p10 (i + d))
  | 0, k, i, hk, h => by
    obtain ⟨k, rfl⟩ : ∃ m, k = m + 1 := ⟨k - 1, by omega⟩
    simp only [val_ten.l0]; rw [if_neg (by omega)]; rfl
  | d + 1, k, i, hk, h => by
    obtain ⟨k, rfl⟩ : ∃ m, k = m + 1 := ⟨k - 1, by omega⟩
    simp only [val_ten.l0]; rw [if_pos (by omega)]
    have h1 := p10_le (i + 1) (by omega)
    have h2 := p10_pos (i + 1)
    rw [← p10_succ, wrap64_of (by omega) (by omega), wrap64_of (by omega) (by omega)]
    have := val_ten_l0 d k (i + 1) (by omega) (by omega)
    rw [show i + 1 + d = i + (d + 1) by omega] at this
    exact this
theorem val_ten_eq (k n : Nat) (hk : 18 < k) (h : n ≤ 18) : val_ten.f k (n : Int) = some (p10 n) := by
  have := val_ten_l0 n k 0 (by omega) (by omega)
  rw [Nat.zero_add] at this
  exact this
def red : Int → Nat → Int × Nat
  | n, 0 => (n, 0)
  | n, s + 1 => if n % 10 = 0 then red (n / 10) s else (n, s + 1)
theorem red_zero : ∀ s, red 0 s = (0, 0)
  | 0 => rfl
  | s + 1 => by simp only [red]; rw [if_pos (by decide)]; exact red_zero s
theorem red_ten (n : Int) (s : Nat) : red (n * 10) (s + 1) = red n s := by
  simp only [red]; rw [if_pos (by omega), show n * 10 / 10 = n by omega]
theorem red_tens (n : Int) : ∀ (j s : Nat), red (n * p10 j) (s + j) = red n s
  | 0, s => by rw [p10_zero, Int.mul_one]; rfl
  | j + 1, s => by rw [p10_succ, ← Int.mul_assoc, ← Nat.add_assoc, red_ten]; exact red_tens n j s
theorem red_scale : ∀ (s : Nat) (n : Int), (red n s).2 ≤ s
  | 0, _ => Nat.le_refl _
  | s + 1, n => by
    simp only [red]
    split
    · exact Nat.le_succ_of_le (red_scale s _)
    · exact Nat.le_refl _
theorem red_done : ∀ (s : Nat) (n : Int), (red n s).2 = 0 ∨ (red n s).1 % 10 ≠ 0
  | 0, _ => Or.inl rfl
  | s + 1, n => by
    simp only [red]
    split
    · exact red_done s _
    · rename_i h; exact Or.inr h
theorem red_same (n : Int) (s : Nat) (h : s = 0 ∨ n % 10 ≠ 0) : red n s = (n, s) := by
  cases s with
  | zero => rfl
  | succ s =>
    simp only [red]
    rw [if_neg (by omega)]
theorem red_abs : ∀ (s : Nat) (n : Int), (red n s).1.natAbs ≤ n.natAbs
  | 0, _ => Nat.le_refl _
  | s + 1, n => by
    simp only [red]
    split
    · exact Nat.le_trans (red_abs s _) (by omega)
    · exact Nat.le_refl _
theorem tmod10 (n : Int) : (Int.tmod n 10 = 0) ↔ n % 10 = 0 := by
  constructor
  · intro h; have := Int.dvd_of_tmod_eq_zero h; omega
  · intro h; exact Int.tmod_eq_zero_of_dvd (by omega)
theorem tdiv10 (n : Int) (h : n % 10 = 0) : Int.tdiv n 10 = n / 10 := by
  rw [Int.tdiv_eq_ediv]; split <;> omega
theorem ref_Norm_l0 (st : ByteArray) : ∀ (s k : Nat) (n : Int), s < k → s ≤ 9223372036854775807 → -9223372036854775808 ≤ n → n ≤ 9223372036854775807 → federationref1_Norm.l0 k 3 n (s : Int) st = some (3, (red n s).1, ((red n s).2 : Int), st)
  | 0, k, n, hk, _, _, _ => by
    obtain ⟨k, rfl⟩ : ∃ m, k = m + 1 := ⟨k - 1, by omega⟩
    simp only [federationref1_Norm.l0]; rw [if_pos trivial, if_neg (by omega)]; rfl
  | s + 1, k, n, hk, hs, h0, h1 => by
    obtain ⟨k, rfl⟩ : ∃ m, k = m + 1 := ⟨k - 1, by omega⟩
    simp only [federationref1_Norm.l0]; rw [if_pos trivial, if_pos (by omega)]
    simp only [red]
    by_cases h : n % 10 = 0
    · rw [if_pos ((tmod10 n).2 h), if_pos h, tdiv10 n h, wrap64_of (by omega) (by omega), wrap64_of (by omega) (by omega), show ((s + 1 : Nat) : Int) - 1 = (s : Int) by omega]
      exact ref_Norm_l0 st s k (n / 10) (by omega) (by omega) (by omega) (by omega)
    · rw [if_neg (fun e => h ((tmod10 n).1 e)), if_neg h]
theorem ref_Norm_eq (k s : Nat) (n : Int) (st : ByteArray) (hk : s + 2 < k) (hs : s ≤ 9223372036854775807) (h0 : -9223372036854775808 ≤ n) (h1 : n ≤ 9223372036854775807) : federationref1_Norm.f k 3 n (s : Int) st = some (3, (red n s).1, ((red n s).2 : Int), st) := by
  obtain ⟨k, rfl⟩ : ∃ m, k = m + 2 := ⟨k - 2, by omega⟩
  unfold federationref1_Norm.f
  rw [if_pos rfl]
  simp only [federationref1_Norm.j0, federationref1_Norm.j1]
  by_cases h : n = 0
  · subst h
    rw [red_zero]
    by_cases hs0 : (s : Int) > 0
    · rw [if_pos hs0]
      simp only [beq_self_eq_true, if_true]
      exact ref_Norm_l0 st 0 k 0 (by omega) (by omega) (by omega) (by omega)
    · rw [if_neg hs0, show (s : Int) = ((0 : Nat) : Int) by omega]
      simp only [Bool.false_eq_true, if_false]
      exact ref_Norm_l0 st 0 k 0 (by omega) (by omega) (by omega) (by omega)
  · have hl := ref_Norm_l0 st s k n (by omega) hs h0 h1
    by_cases hs0 : (s : Int) > 0
    · rw [if_pos hs0, if_neg (by simpa using h)]; exact hl
    · rw [if_neg hs0]; simp only [Bool.false_eq_true, if_false]; exact hl
end Go.Proofs.Ytllkhdhanheieaa.U
namespace Go.Proofs.Ytllkhdhanheieaa.U
open Go.RowKit Go.Proofs.YtllkhdhanheieaaW.PrintWords Go.Proofs.YtllkhdhanheieaaW.PrintLast Go.Proofs.YtllkhdhanheieaaW.PrintMore
attribute [local go_sem] max2_int min2_int max_two min_two max_three min_three max_four min_four
attribute [local go_sem high] own_gtr own_leq own_geq own_cell_set Option.map_some fld23_1
set_option linter.unusedVariables false
set_option linter.unusedSimpArgs false
def okB (st : ByteArray) : Bool := st.data.toList.all fun b => decide (32 ≤ b.toNat ∧ b.toNat ≤ 126)
def noS (st : ByteArray) : Bool := st.toList == ([] : List UInt8)
def rightB (kd n sc : Int) (st : ByteArray) : Bool :=
  if kd = 0 then n == 0 && (sc == 0 && noS st)
  else if kd = 1 then decide (0 ≤ n ∧ n ≤ 1) && (sc == 0 && noS st)
  else if kd = 2 then sc == 0 && noS st
  else if kd = 3 then decide (-1000000000000000 < n ∧ n < 1000000000000000 ∧ 0 ≤ sc ∧ sc ≤ 6 ∧ (sc = 0 ∨ n % 10 ≠ 0)) && noS st
  else if kd = 4 then decide (n = 0 ∧ sc = 0 ∧ st.data.size ≤ 40) && okB st
  else if kd = 5 then decide (n = 0 ∧ sc = 0 ∧ st.data.size ≤ 40)
  else false
end Go.Proofs.Ytllkhdhanheieaa.U
namespace Go.Proofs.Ytllkhdhanheieaa.U
open Go.RowKit Go.Proofs.YtllkhdhanheieaaW.PrintWords Go.Proofs.YtllkhdhanheieaaW.PrintLast Go.Proofs.YtllkhdhanheieaaW.PrintMore
attribute [local go_sem] max2_int min2_int max_two min_two max_three min_three max_four min_four
attribute [local go_sem high] own_gtr own_leq own_geq own_cell_set Option.map_some fld23_1
set_option linter.unusedVariables false
set_option linter.unusedSimpArgs false
def cmpI (a b : Int) : Int := if a < b then -1 else if b < a then 1 else 0
def cmpT (a b : ByteArray) : Int := if Op.bytesLess a.toList b.toList = true then -1 else if Op.bytesLess b.toList a.toList = true then 1 else 0
theorem cmpB_eq : ∀ a b : List UInt8, Lib.compareBytes a b = if Op.bytesLess a b = true then -1 else if Op.bytesLess b a = true then 1 else 0
  | [], [] => rfl
  | [], _ :: _ => rfl
  | _ :: _, [] => rfl
  | x :: a, y :: b => by
    simp only [Lib.compareBytes, Op.bytesLess]
    have ih := cmpB_eq a b
    by_cases h1 : x < y
    · simp [h1]
    · by_cases h2 : y < x
      · have h3 : ¬ x = y := by rintro rfl; exact h1 h2
        simp [h1, h2, h3]
      · have h3 : x = y := by
          apply UInt8.toNat_inj.1
          rw [UInt8.lt_iff_toNat_lt] at *; omega
        subst h3
        simp [h1, ih]
theorem strings_Compare_eq (a b : ByteArray) : strings_Compare.f a b = some (cmpT a b) := by
  unfold strings_Compare.f cmpT
  rw [cmpB_eq, ByteArray.toList_eq, ByteArray.toList_eq]
theorem bytesLess_irrefl : ∀ a : List UInt8, Op.bytesLess a a = false
  | [] => rfl
  | x :: a => by simp [Op.bytesLess, bytesLess_irrefl a]
theorem bytesLess_total (a b : List UInt8) : Op.bytesLess a b = true ∨ a = b ∨ Op.bytesLess b a = true := by
  have := bytesLess_swap a b
  cases h : Op.bytesLess a b with
  | true => exact Or.inl rfl
  | false =>
    rw [h, Bool.false_or] at this
    by_cases e : a = b
    · exact Or.inr (Or.inl e)
    · right; right; rw [this]; simpa using e
theorem bytesLess_asymm (a b : List UInt8) (h : Op.bytesLess a b = true) : Op.bytesLess b a = false := by
  have := bytesLess_swap a b
  rw [h] at this
  simpa using this
def mic (n sc : Int) : Int := n * p10 (6 - sc.toNat)
def ordB (k1 n1 s1 : Int) (t1 : ByteArray) (k2 n2 s2 : Int) (t2 : ByteArray) : Int :=
  if k1 = k2 then (if k1 = 1 ∨ k1 = 2 then cmpI n1 n2 else if k1 = 3 then cmpI (mic n1 s1) (mic n2 s2) else cmpT t1 t2) else cmpI k1 k2
theorem cmp_eq (a b : Int) : cmp_Compare_int.f a b = some (cmpI a b) := by
  unfold cmp_Compare_int.f cmp_isNaN_int.f cmpI
  simp only [Option.bind_some, bne_self_eq_false, Bool.false_eq_true, if_false]
  by_cases h : a < b
  · rw [if_pos h, if_pos h]
  · rw [if_neg h, if_neg h]
    by_cases h2 : b < a
    · rw [if_pos h2, if_pos h2]
    · rw [if_neg h2, if_neg h2]
theorem cmpI_congr {a b c d : Int} (h : c < d ↔ a < b) (k : d < c ↔ b < a) : cmpI c d = cmpI a b := by
  unfold cmpI; simp only [h, k]
theorem parts_order {a b : Int} (q : Int) (hq : 0 < q) : (if cmpI (a.tdiv q) (b.tdiv q) = 0 then cmpI (a.tmod q) (b.tmod q) else cmpI (a.tdiv q) (b.tdiv q)) = cmpI a b := by
  have ha := Int.mul_tdiv_add_tmod a q
  have hb := Int.mul_tdiv_add_tmod b q
  have a1 := Int.tmod_lt_of_pos a hq
  have b1 := Int.tmod_lt_of_pos b hq
  have a2 : a.tmod q = -((-a).tmod q) := by rw [Int.neg_tmod]; omega
  have b2 : b.tmod q = -((-b).tmod q) := by rw [Int.neg_tmod]; omega
  have a3 := Int.tmod_lt_of_pos (-a) hq
  have b3 := Int.tmod_lt_of_pos (-b) hq
  have a4 : 0 ≤ a → 0 ≤ a.tmod q := fun h => Int.tmod_nonneg _ h
  have b4 : 0 ≤ b → 0 ≤ b.tmod q := fun h => Int.tmod_nonneg _ h
  have a5 : 0 ≤ -a → 0 ≤ (-a).tmod q := fun h => Int.tmod_nonneg _ h
  have b5 : 0 ≤ -b → 0 ≤ (-b).tmod q := fun h => Int.tmod_nonneg _ h
  have a6 : 0 ≤ a → 0 ≤ a.tdiv q := fun h => Int.tdiv_nonneg h (by omega)
  have b6 : 0 ≤ b → 0 ≤ b.tdiv q := fun h => Int.tdiv_nonneg h (by omega)
  have a7 : 0 ≤ -a → 0 ≤ -(a.tdiv q) := fun h => by rw [← Int.neg_tdiv]; exact Int.tdiv_nonneg h (by omega)
  have b7 : 0 ≤ -b → 0 ≤ -(b.tdiv q) := fun h => by rw [← Int.neg_tdiv]; exact Int.tdiv_nonneg h (by omega)
  generalize a.tdiv q = u at *
  generalize b.tdiv q = v at *
  generalize a.tmod q = c at *
  generalize b.tmod q = d at *
  generalize (-a).tmod q = e at *
  generalize (-b).tmod q = f at *
  rcases Int.lt_trichotomy u v with h | h | h
  · have h1 : q * u + q ≤ q * v := by
      have := Int.mul_le_mul_of_nonneg_left (show u + 1 ≤ v by omega) (show 0 ≤ q by omega)
      rw [Int.mul_add, Int.mul_one] at this; exact this
    have : cmpI u v = -1 := by unfold cmpI; rw [if_pos h]
    rw [if_neg (by rw [this]; decide), this]
    unfold cmpI
    by_cases ha0 : 0 ≤ a
    · by_cases hb0 : 0 ≤ b
      · rw [if_pos (by omega)]
      · have := b7 (by omega); have := a6 ha0; omega
    · rw [if_pos (by by_cases hb0 : 0 ≤ b <;> omega)]
  · subst h
    have : cmpI u u = 0 := by unfold cmpI; rw [if_neg (Int.lt_irrefl _), if_neg (Int.lt_irrefl _)]
    rw [if_pos this]
    clear this
    obtain ⟨m, hm⟩ : ∃ m, m = q * u := ⟨_, rfl⟩
    rw [← hm] at ha hb
    exact cmpI_congr (by omega) (by omega)
  · have h1 : q * v + q ≤ q * u := by
      have := Int.mul_le_mul_of_nonneg_left (show v + 1 ≤ u by omega) (show 0 ≤ q by omega)
      rw [Int.mul_add, Int.mul_one] at this; exact this
    have : cmpI u v = 1 := by unfold cmpI; rw [if_neg (by omega), if_pos h]
    rw [if_neg (by rw [this]; decide), this]
    unfold cmpI
    by_cases hb0 : 0 ≤ b
    · by_cases ha0 : 0 ≤ a
      · rw [if_neg (by omega), if_pos (by omega)]
      · have := a7 (by omega); have := b6 hb0; omega
    · rw [if_neg (by by_cases ha0 : 0 ≤ a <;> omega), if_pos (by by_cases ha0 : 0 ≤ a <;> omega)]
theorem or_eq (a b : Int) (k : Nat) (hk : 2 < k) : cmp_Or_int.f k [a, b] = some (if a = 0 then b else a) := by
  obtain ⟨k, rfl⟩ : ∃ m, k = m + 3 := ⟨k - 3, by omega⟩
  unfold cmp_Or_int.f
  have e0 : rd [a, b] 0 = a := rfl
  have e1 : rd [a, b] 1 = b := rfl
  simp only [List.length_cons, List.length_nil, cmp_Or_int.l0]
  rw [if_pos (by omega), if_pos (by omega), if_pos (by omega), e0, wrap64_of (by omega) (by omega)]
  by_cases h : a = 0
  · rw [if_pos h, if_pos h, if_pos (by omega), if_pos (by omega), if_pos (by omega), show (0 : Int) + 1 = 1 from rfl, e1, wrap64_of (by omega) (by omega)]
    by_cases h2 : b = 0
    · rw [if_pos h2, if_neg (by omega), h2]
    · rw [if_neg h2]
  · rw [if_neg h, if_neg h]
theorem p10_six_sub (s : Nat) (h : s ≤ 6) : p10 s * p10 (6 - s) = 1000000 := by
  rw [← p10_add, show s + (6 - s) = 6 by omega, p10_six]
theorem val_whole_eq (k : Nat) (kd n : Int) (s : Nat) (st : ByteArray) (hk : 18 < k) (hs : s ≤ 6) (h0 : -1000000000000000 < n) (h1 : n < 1000000000000000) : val_whole.f k kd n (s : Int) st = some (n.tdiv (p10 s)) := by
  unfold val_whole.f
  have e : mn (mx (s : Int) 0) 6 = (s : Int) := by unfold mn mx; split <;> split <;> omega
  rw [e, val_ten_eq k s hk (by omega)]
  simp only [Option.bind_some]
  have := p10_pos s
  rw [if_neg (by omega)]
  have h2 := Int.natAbs_tdiv_le_natAbs n (p10 s)
  rw [wrap64_of (by omega) (by omega)]
theorem tdiv_pows (s : Nat) (hs : s ≤ 6) : Int.tdiv (p10 6) (p10 s) = p10 (6 - s) := by
  have h := p10_six_sub s hs
  rw [p10_six, ← h, Int.mul_comm, Int.mul_tdiv_cancel _ (by have := p10_pos s; omega)]
theorem val_part_eq (k : Nat) (kd n : Int) (s : Nat) (st : ByteArray) (hk : 18 < k) (hs : s ≤ 6) (h0 : -1000000000000000 < n) (h1 : n < 1000000000000000) : val_part.f k kd n (s : Int) st = some (n.tmod (p10 s) * p10 (6 - s)) := by
  unfold val_part.f
  have e : mn (mx (s : Int) 0) 6 = (s : Int) := by unfold mn mx; split <;> split <;> omega
  rw [e, val_ten_eq k s hk (by omega)]
  simp only [Option.bind_some]
  have hp := p10_pos s
  rw [if_neg (by omega), show (6 : Int) = ((6 : Nat) : Int) from rfl, val_ten_eq k 6 hk (by omega)]
  simp only [Option.bind_some]
  rw [tdiv_pows s hs]
  have hq := p10_pos (6 - s)
  have hq2 := p10_le (6 - s) (by omega)
  rw [wrap64_of (x := p10 (6 - s)) (by omega) (by omega)]
  have h6 := p10_six_sub s hs
  have b1 : (n.tmod (p10 s)).natAbs ≤ n.natAbs := by rw [Int.natAbs_tmod]; exact Nat.mod_le _ _
  have b2 := Int.tmod_lt_of_pos n hp
  have b3 := Int.tmod_lt_of_pos (-n) hp
  rw [Int.neg_tmod] at b3
  have b4 : n.tmod (p10 s) * p10 (6 - s) ≤ p10 s * p10 (6 - s) := Int.mul_le_mul_of_nonneg_right (by omega) (by omega)
  have b5 : -(n.tmod (p10 s)) * p10 (6 - s) ≤ p10 s * p10 (6 - s) := Int.mul_le_mul_of_nonneg_right (by omega) (by omega)
  rw [Int.neg_mul] at b5
  rw [wrap64_of (by omega) (by omega)]
theorem mic_tdiv (n : Int) (s : Nat) (hs : s ≤ 6) : (n * p10 (6 - s)).tdiv 1000000 = n.tdiv (p10 s) := by
  rw [← p10_six_sub s hs]; exact Int.mul_tdiv_mul_of_pos_left _ _ (p10_pos _)
theorem mic_tmod (n : Int) (s : Nat) (hs : s ≤ 6) : (n * p10 (6 - s)).tmod 1000000 = n.tmod (p10 s) * p10 (6 - s) := by
  have h1 := Int.mul_tdiv_add_tmod (n * p10 (6 - s)) 1000000
  have h2 := Int.mul_tdiv_add_tmod n (p10 s)
  rw [mic_tdiv n s hs] at h1
  have h3 : (p10 s * n.tdiv (p10 s) + n.tmod (p10 s)) * p10 (6 - s) = n * p10 (6 - s) := by rw [h2]
  rw [Int.add_mul, Int.mul_assoc, Int.mul_comm (n.tdiv (p10 s)), ← Int.mul_assoc, p10_six_sub s hs] at h3
  omega
theorem val_Order_eq (k : Nat) (k1 n1 : Int) (s1 : Nat) (t1 : ByteArray) (k2 n2 : Int) (s2 : Nat) (t2 : ByteArray) (hk : 42 < k) (h1 : k1 = 3 → s1 ≤ 6 ∧ -1000000000000000 < n1 ∧ n1 < 1000000000000000) (h2 : k2 = 3 → s2 ≤ 6 ∧ -1000000000000000 < n2 ∧ n2 < 1000000000000000) :
    val_Order.f k k1 n1 (s1 : Int) t1 k2 n2 (s2 : Int) t2 = some (ordB k1 n1 (s1 : Int) t1 k2 n2 (s2 : Int) t2) := by
  obtain ⟨k, rfl⟩ : ∃ m, k = m + 1 := ⟨k - 1, by omega⟩
  unfold val_Order.f ordB
  by_cases e : k1 = k2
  · rw [if_pos e, if_pos e]
    by_cases e1 : k1 = 1
    · rw [if_pos e1, if_pos (Or.inl e1)]
      simp only [val_Order.j0, if_true, api_Value_both__val_number.f, val_number.f, val_order.f, Option.bind_some, cmp_eq]
    · rw [if_neg e1]
      simp only [val_Order.j0]
      by_cases e2 : k1 = 2
      · rw [if_pos (by simpa using e2), if_pos (Or.inr e2)]
        simp only [api_Value_both__val_number.f, val_number.f, val_order.f, Option.bind_some, cmp_eq]
      · rw [if_neg (by simpa using e2), if_neg (show ¬(k1 = 1 ∨ k1 = 2) by omega)]
        by_cases e3 : k1 = 3
        · rw [if_pos e3, if_pos e3]
          obtain ⟨a1, a2, a3⟩ := h1 e3
          obtain ⟨b1, b2, b3⟩ := h2 (by omega)
          simp only [api_Value_both__val_whole.f, api_Value_both__val_part.f, val_whole_eq k _ n1 s1 _ (by omega) a1 a2 a3, val_whole_eq k _ n2 s2 _ (by omega) b1 b2 b3, val_part_eq k _ n1 s1 _ (by omega) a1 a2 a3, val_part_eq k _ n2 s2 _ (by omega) b1 b2 b3, Option.bind_some, val_order.f, cmp_eq, or_eq _ _ k (by omega)]
          unfold mic
          have hp := parts_order (a := n1 * p10 (6 - s1)) (b := n2 * p10 (6 - s2)) 1000000 (by decide)
          rw [mic_tdiv n1 s1 a1, mic_tdiv n2 s2 b1, mic_tmod n1 s1 a1, mic_tmod n2 s2 b1] at hp
          simp only [Int.toNat_natCast]
          rw [hp]
        · rw [if_neg e3, if_neg e3, strings_Compare_eq]; rfl
  · rw [if_neg e, if_neg e, cmp_eq]; rfl
end Go.Proofs.Ytllkhdhanheieaa.U
namespace Go.Proofs.Ytllkhdhanheieaa.U
open Go.RowKit Go.Proofs.YtllkhdhanheieaaW.PrintWords Go.Proofs.YtllkhdhanheieaaW.PrintLast Go.Proofs.YtllkhdhanheieaaW.PrintMore
attribute [local go_sem] max2_int min2_int max_two min_two max_three min_three max_four min_four
attribute [local go_sem high] own_gtr own_leq own_geq own_cell_set Option.map_some fld23_1
set_option linter.unusedVariables false
set_option linter.unusedSimpArgs false
def I64 (x : Int) : Prop := -9223372036854775808 ≤ x ∧ x ≤ 9223372036854775807
end Go.Proofs.Ytllkhdhanheieaa.U
namespace Go.Proofs.Ytllkhdhanheieaa.U
open Go.RowKit Go.Proofs.YtllkhdhanheieaaW.PrintWords Go.Proofs.YtllkhdhanheieaaW.PrintLast Go.Proofs.YtllkhdhanheieaaW.PrintMore
attribute [local go_sem] max2_int min2_int max_two min_two max_three min_three max_four min_four
attribute [local go_sem high] own_gtr own_leq own_geq own_cell_set Option.map_some fld23_1
set_option linter.unusedVariables false
set_option linter.unusedSimpArgs false
structure RD (n : Int) (s : Nat) : Prop where
  lo : -1000000000000000 < n
  hi : n < 1000000000000000
  sc : s ≤ 6
  nm : s = 0 ∨ n % 10 ≠ 0
structure RV (kd n : Int) (s : Nat) : Prop where
  i : I64 n
  d : kd = 3 → RD n s
end Go.Proofs.Ytllkhdhanheieaa.U
namespace Go.Proofs.Ytllkhdhanheieaa.U
open Go.RowKit Go.Proofs.YtllkhdhanheieaaW.PrintWords Go.Proofs.YtllkhdhanheieaaW.PrintLast Go.Proofs.YtllkhdhanheieaaW.PrintMore
attribute [local go_sem] max2_int min2_int max_two min_two max_three min_three max_four min_four
attribute [local go_sem high] own_gtr own_leq own_geq own_cell_set Option.map_some fld23_1
set_option linter.unusedVariables false
set_option linter.unusedSimpArgs false
theorem within_eq (a n : Int) (ha : I64 a) (h0 : 0 < n) (h1 : n ≤ 4611686018427387904) : federationlaw1_within.f a n = some (a % n) := by
  unfold federationlaw1_within.f I64 at *
  rw [if_neg (by omega)]
  have e1 := Int.mul_tdiv_add_tmod a n
  have e2 := Int.mul_ediv_add_emod a n
  have e3 := Int.emod_lt_of_pos a h0
  have e4 := Int.emod_nonneg a (show n ≠ 0 by omega)
  have e5 := Int.tmod_lt_of_pos a h0
  have e6 := Int.tmod_lt_of_pos (-a) h0
  rw [Int.neg_tmod] at e6
  by_cases c : a.tmod n < 0
  · rw [if_pos c, wrap64_of (by omega) (by omega)]
    have := ((Int.ediv_emod_unique (a := a) (r := a.tmod n + n) (q := a.tdiv n - 1) h0).2 ⟨by rw [Int.mul_sub, Int.mul_one]; omega, by omega, by omega⟩).2
    rw [this]
  · rw [if_neg c]
    have := ((Int.ediv_emod_unique (a := a) (r := a.tmod n) (q := a.tdiv n) h0).2 ⟨by omega, by omega, by omega⟩).2
    rw [this]
theorem emod_bd (a n : Int) (h0 : 0 < n) : 0 ≤ a % n ∧ a % n < n := ⟨Int.emod_nonneg a (by omega), Int.emod_lt_of_pos a h0⟩
theorem RV_right {kd n : Int} {s : Nat} {st : ByteArray} (hn : I64 n) (h : rightB kd n (s : Int) st = true) : RV kd n s := by
  refine ⟨hn, fun e => ?_⟩
  subst e
  unfold rightB at h
  rw [if_neg (by decide), if_neg (by decide), if_neg (by decide), if_pos rfl, Bool.and_eq_true, decide_eq_true_eq] at h
  obtain ⟨⟨a, b, c, d, e⟩, _⟩ := h
  exact ⟨a, b, by omega, by omega⟩
theorem noS_empty : noS (⟨#[]⟩ : ByteArray) = true := by decide +kernel
theorem right_RD {n : Int} {s : Nat} (h : RD n s) : rightB 3 n (s : Int) (⟨#[]⟩ : ByteArray) = true := by
  unfold rightB
  rw [if_neg (by decide), if_neg (by decide), if_neg (by decide), if_pos rfl, noS_empty, Bool.and_true, decide_eq_true_eq]
  exact ⟨h.lo, h.hi, by omega, by have := h.sc; omega, by have := h.nm; omega⟩
theorem RD_red (n : Int) (s : Nat) (h0 : -1000000000000000 < n) (h1 : n < 1000000000000000) (hs : s ≤ 6) : RD (red n s).1 (red n s).2 := by
  have a := red_abs s n
  have b := red_scale s n
  have c := red_done s n
  exact ⟨by omega, by omega, by omega, c⟩
theorem mkText_size (st : ByteArray) : (mkText st).data.size ≤ 40 := by
  unfold mkText strOfNums
  simp [conv8L_length]
  omega
theorem mkText_ok (st : ByteArray) : okB (mkText st) = true := by
  unfold okB mkText strOfNums
  simp only [List.all_eq_true, decide_eq_true_eq, List.map_toArray, List.mem_map, conv8L]
  rintro b ⟨x, hx, rfl⟩
  obtain ⟨c, _, rfl⟩ := List.mem_map.1 (List.mem_of_mem_take hx)
  unfold conv8
  have h1 := emod_bd (c.toNat : Int) 95 (by decide)
  generalize (c.toNat : Int) % 95 = z at *
  have : ((32 + z).toNat % 256) = (32 + z).toNat := Nat.mod_eq_of_lt (by omega)
  simp only [UInt8.toNat_ofNat']
  omega
theorem extract_size (st : ByteArray) (j : Nat) : (st.extract 0 j).data.size = min j st.data.size := by
  rw [← Array.length_toList, Lib.extract_data]
  simp
structure Made (kd n : Int) (s : Nat) (st : ByteArray) : Prop where
  r : rightB kd n (s : Int) st = true
  v : RV kd n s
  sz : st.data.size ≤ 40
  k0 : 0 ≤ kd
  k5 : kd ≤ 5
  z : kd ≠ 3 → s = 0
theorem rd6 (a b c d e f : Int) (i : Int) (h0 : 0 ≤ i) (h1 : i < 6) : rd [a, b, c, d, e, f] i = a ∨ rd [a, b, c, d, e, f] i = b ∨ rd [a, b, c, d, e, f] i = c ∨ rd [a, b, c, d, e, f] i = d ∨ rd [a, b, c, d, e, f] i = e ∨ rd [a, b, c, d, e, f] i = f := by
  have : i = 0 ∨ i = 1 ∨ i = 2 ∨ i = 3 ∨ i = 4 ∨ i = 5 := by omega
  rcases this with rfl | rfl | rfl | rfl | rfl | rfl
  · exact Or.inl rfl
  · exact Or.inr (Or.inl rfl)
  · exact Or.inr (Or.inr (Or.inl rfl))
  · exact Or.inr (Or.inr (Or.inr (Or.inl rfl)))
  · exact Or.inr (Or.inr (Or.inr (Or.inr (Or.inl rfl))))
  · exact Or.inr (Or.inr (Or.inr (Or.inr (Or.inr rfl))))
theorem rd8 (a b c d e f g h : Int) (P : Int → Prop) (pa : P a) (pb : P b) (pc : P c) (pd : P d) (pe : P e) (pf : P f) (pg : P g) (ph : P h) (i : Int) (h0 : 0 ≤ i) (h1 : i < 8) : P (rd [a, b, c, d, e, f, g, h] i) := by
  have : i = 0 ∨ i = 1 ∨ i = 2 ∨ i = 3 ∨ i = 4 ∨ i = 5 ∨ i = 6 ∨ i = 7 := by omega
  rcases this with rfl | rfl | rfl | rfl | rfl | rfl | rfl | rfl
  · exact pa
  · exact pb
  · exact pc
  · exact pd
  · exact pe
  · exact pf
  · exact pg
  · exact ph
theorem I64_tdiv (a b : Int) (ha : I64 a) (hb : 2 ≤ b) : I64 (wrap64 (a.tdiv b)) ∧ wrap64 (a.tdiv b) = a.tdiv b := by
  have h := Int.natAbs_tdiv_le_natAbs a b
  have h2 : (a.tdiv b).natAbs ≤ 4611686018427387904 := by
    rw [Int.natAbs_tdiv]
    have h1 : a.natAbs ≤ 9223372036854775808 := by unfold I64 at ha; omega
    exact Nat.le_trans (Nat.div_le_div_left (show 2 ≤ b.natAbs by omega) (by decide)) (by have := Nat.div_le_div_right (c := 2) h1; simpa using this)
  have e : wrap64 (a.tdiv b) = a.tdiv b := wrap64_of (by omega) (by omega)
  rw [e]
  exact ⟨⟨by omega, by omega⟩, rfl⟩
theorem Make_eq (kind n : Int) (st : ByteArray) (hk : I64 kind) (hn : I64 n) (hs : st.size ≤ 140737488351232) :
    ∃ n' s' st', (∀ k, 60 < k → federationlaw1_Make.f k kind n st = some (kind % 6, n', ((s' : Nat) : Int), st')) ∧ Made (kind % 6) n' s' st' := by
  have hk6 := within_eq kind 6 hk (by decide) (by decide)
  have hb := emod_bd kind 6 (by decide)
  have hd := I64_tdiv kind 6 hk (by decide)
  have hd2 := I64_tdiv kind 36 hk (by decide)
  have h0 : I64 0 := ⟨by decide, by decide⟩
  have em : (⟨#[]⟩ : ByteArray).data.size ≤ 40 := by decide
  have c : kind % 6 = 0 ∨ kind % 6 = 1 ∨ kind % 6 = 2 ∨ kind % 6 = 3 ∨ kind % 6 = 4 ∨ kind % 6 = 5 := by omega
  rcases c with c | c | c | c | c | c
  · have hr : rightB (kind % 6) 0 ((0 : Nat) : Int) (⟨#[]⟩ : ByteArray) = true := by rw [c]; decide +kernel
    refine ⟨0, 0, _, fun k _ => ?_, ⟨hr, RV_right h0 hr, em, hb.1, by omega, fun _ => rfl⟩⟩
    unfold federationlaw1_Make.f federationlaw1_Make_p.f
    rw [hk6, c, if_neg (by decide), Option.bind_some, if_neg (by decide), if_neg (by decide), if_neg (by decide), if_neg (by decide), if_neg (by decide)]
    rfl
  · have hw := within_eq n 2 hn (by decide) (by decide)
    have hm := emod_bd n 2 (by decide)
    have hr : rightB (kind % 6) (n % 2) ((0 : Nat) : Int) (⟨#[]⟩ : ByteArray) = true := by
      rw [c]; unfold rightB; rw [if_neg (by decide), if_pos rfl, noS_empty, decide_eq_true (by omega)]; rfl
    refine ⟨n % 2, 0, _, fun k _ => ?_, ⟨hr, RV_right ⟨by omega, by omega⟩ hr, em, hb.1, by omega, fun _ => rfl⟩⟩
    unfold federationlaw1_Make.f federationlaw1_Make_p.f
    rw [hk6, c, if_neg (by decide), Option.bind_some, if_pos rfl, hw, Option.bind_some]
    rfl
  · have hw := within_eq n 100 hn (by decide) (by decide)
    have hm := emod_bd n 100 (by decide)
    have hi := within_eq (wrap64 (Int.tdiv kind 6)) 8 hd.1 (by decide) (by decide)
    have hj := emod_bd (wrap64 (Int.tdiv kind 6)) 8 (by decide)
    generalize hz : wrap64 (Int.tdiv kind 6) % 8 = j at hi hj
    have hrd : I64 (rd [n, 0, 1, -1, 9223372036854775807, -9223372036854775808, wrap64 (n % 100 - 50), 7] j) := by
      rw [wrap64_of (by omega) (by omega)]
      exact rd8 _ _ _ _ _ _ _ _ I64 hn ⟨by decide, by decide⟩ ⟨by decide, by decide⟩ ⟨by decide, by decide⟩ ⟨by decide, by decide⟩ ⟨by decide, by decide⟩ ⟨by omega, by omega⟩ ⟨by decide, by decide⟩ j hj.1 hj.2
    have hr : rightB (kind % 6) (rd [n, 0, 1, -1, 9223372036854775807, -9223372036854775808, wrap64 (n % 100 - 50), 7] j) ((0 : Nat) : Int) (⟨#[]⟩ : ByteArray) = true := by
      rw [c]; unfold rightB; rw [if_neg (by decide), if_neg (by decide), if_pos rfl, noS_empty]; rfl
    refine ⟨_, 0, _, fun k _ => ?_, ⟨hr, RV_right hrd hr, em, hb.1, by omega, fun _ => rfl⟩⟩
    unfold federationlaw1_Make.f federationlaw1_Make_p.f
    rw [hk6, c, if_neg (by decide), Option.bind_some, if_neg (by decide), if_pos rfl, hw, Option.bind_some, Option.bind_some, hi, Option.bind_some, if_pos hj.1, if_pos (by simp; omega)]
    rfl
  · have hw := within_eq n 2000 hn (by decide) (by decide)
    have hm := emod_bd n 2000 (by decide)
    have hw2 := within_eq n 50 hn (by decide) (by decide)
    have hm2 := emod_bd n 50 (by decide)
    have hi := within_eq (wrap64 (Int.tdiv kind 6)) 6 hd.1 (by decide) (by decide)
    have hj := emod_bd (wrap64 (Int.tdiv kind 6)) 6 (by decide)
    have hi2 := within_eq (wrap64 (Int.tdiv kind 36)) 7 hd2.1 (by decide) (by decide)
    have hj2 := emod_bd (wrap64 (Int.tdiv kind 36)) 7 (by decide)
    generalize hz : wrap64 (Int.tdiv kind 6) % 6 = j at hi hj
    generalize hz2 : wrap64 (Int.tdiv kind 36) % 7 = j2 at hi2 hj2
    have ht1 := Int.tmod_lt_of_pos n (show (0 : Int) < 1000000000000000 by decide)
    have ht2 := Int.tmod_lt_of_pos (-n) (show (0 : Int) < 1000000000000000 by decide)
    rw [Int.neg_tmod] at ht2
    have hx : -1000000000000000 < rd [Int.tmod n 1000000000000000, wrap64 (n % 2000 - 1000), 999999999999999, -999999999999999, 1, wrap64 (wrap64 (n % 50 * 1000) - 20000)] j ∧ rd [Int.tmod n 1000000000000000, wrap64 (n % 2000 - 1000), 999999999999999, -999999999999999, 1, wrap64 (wrap64 (n % 50 * 1000) - 20000)] j < 1000000000000000 := by
      have e1 : wrap64 (n % 2000 - 1000) = n % 2000 - 1000 := wrap64_of (by omega) (by omega)
      have e2 : wrap64 (n % 50 * 1000) = n % 50 * 1000 := wrap64_of (by omega) (by omega)
      have e3 : wrap64 (n % 50 * 1000 - 20000) = n % 50 * 1000 - 20000 := wrap64_of (by omega) (by omega)
      rw [e1, e2, e3]
      rcases rd6 (Int.tmod n 1000000000000000) (n % 2000 - 1000) 999999999999999 (-999999999999999) 1 (n % 50 * 1000 - 20000) j hj.1 hj.2 with h | h | h | h | h | h <;> rw [h] <;> omega
    obtain ⟨t, rfl⟩ : ∃ t : Nat, j2 = (t : Int) := ⟨j2.toNat, by omega⟩
    generalize hy : rd [Int.tmod n 1000000000000000, wrap64 (n % 2000 - 1000), 999999999999999, -999999999999999, 1, wrap64 (wrap64 (n % 50 * 1000) - 20000)] j = y at hx
    have hrd := RD_red y t hx.1 hx.2 (by omega)
    have hr := right_RD hrd
    rw [← c] at hr
    refine ⟨(red y t).1, (red y t).2, _, fun k hk => ?_, ⟨hr, RV_right ⟨by have := hrd.lo; omega, by have := hrd.hi; omega⟩ hr, em, hb.1, by omega, fun e => absurd c e⟩⟩
    unfold federationlaw1_Make.f federationlaw1_Make_p.f
    rw [hk6, c, if_neg (by decide), Option.bind_some, if_neg (by decide), if_neg (by decide), if_pos rfl, hw, Option.bind_some, hw2, Option.bind_some, Option.bind_some, hi, Option.bind_some, if_pos hj.1, if_pos (by simp; omega), hi2, Option.bind_some, hy, ref_Norm_eq k t y _ (by omega) (by omega) (by omega) (by omega), Option.bind_some]
  · have hr : rightB (kind % 6) 0 ((0 : Nat) : Int) (mkText st) = true := by
      have h1 := mkText_size st
      have h2 := mkText_ok st
      rw [c]; unfold rightB; rw [if_neg (by decide), if_neg (by decide), if_neg (by decide), if_neg (by decide), if_pos rfl, h2, decide_eq_true (by omega)]; rfl
    refine ⟨0, 0, _, fun k _ => ?_, ⟨hr, RV_right h0 hr, mkText_size st, hb.1, by omega, fun _ => rfl⟩⟩
    unfold federationlaw1_Make.f
    rw [hk6, c, if_pos rfl, if_pos hs]
    rfl
  · have hz : (st.size : Int) = (st.data.size : Int) := rfl
    have hm : mn (st.size : Int) 40 = ((min 40 st.data.size : Nat) : Int) := by unfold mn; split <;> omega
    have hr : rightB (kind % 6) 0 ((0 : Nat) : Int) (st.extract 0 (min 40 st.data.size)) = true := by
      have h1 := extract_size st (min 40 st.data.size)
      rw [c]; unfold rightB; rw [if_neg (by decide), if_neg (by decide), if_neg (by decide), if_neg (by decide), if_neg (by decide), if_pos rfl, decide_eq_true (by omega)]
    refine ⟨0, 0, _, fun k _ => ?_, ⟨hr, RV_right h0 hr, by rw [extract_size]; omega, hb.1, by omega, fun _ => rfl⟩⟩
    unfold federationlaw1_Make.f federationlaw1_Make_p.f
    rw [hk6, c, if_neg (by decide), Option.bind_some, if_neg (by decide), if_neg (by decide), if_neg (by decide), if_neg (by decide), if_pos rfl, hm, if_pos (by omega), if_pos (by omega)]
    rfl
end Go.Proofs.Ytllkhdhanheieaa.U
namespace Go.Proofs.Ytllkhdhanheieaa.U
open Go.RowKit Go.Proofs.YtllkhdhanheieaaW.PrintWords Go.Proofs.YtllkhdhanheieaaW.PrintLast Go.Proofs.YtllkhdhanheieaaW.PrintMore
attribute [local go_sem] max2_int min2_int max_two min_two max_three min_three max_four min_four
attribute [local go_sem high] own_gtr own_leq own_geq own_cell_set Option.map_some fld23_1
set_option linter.unusedVariables false
set_option linter.unusedSimpArgs false
theorem I64_of {x : Int} (h : (Lit.int .i64 x).wf = true) : I64 x := by
  have h1 : IntKind.i64.min = -9223372036854775808 := by decide
  have h2 : IntKind.i64.max = 9223372036854775807 := by decide
  simp only [Lit.wf, Bool.and_eq_true, decide_eq_true_eq, h1, h2] at h
  exact h
theorem known_two : federationlaw1_known.f 200 = some true := by decide +kernel
theorem known_ge {k : Nat} (h : 200 ≤ k) : federationlaw1_known.f k = some true := at_rounds federationlaw1_known.mono h known_two
end Go.Proofs.Ytllkhdhanheieaa.U
namespace Go.Proofs.Ytllkhdhanheieaa.Pure
open Go.RowKit Go.Proofs.Ytllkhdhanheieaa.U Go.Proofs.YtllkhdhanheieaaW.PrintWords Go.Proofs.YtllkhdhanheieaaW.PrintLast Go.Proofs.YtllkhdhanheieaaW.PrintMore
theorem sizes_or {a b : ByteArray} (f : Bool → Option Bool) (h1 : f true = some true) (h2 : a.size ≤ 100 → b.size ≤ 100 → f false = some true) : (if (a.size : Int) > 100 then f true else f (decide ((b.size : Int) > 100))) = some true := by
  by_cases h : (a.size : Int) > 100
  · rw [if_pos h, h1]
  · rw [if_neg h]
    by_cases h' : (b.size : Int) > 100
    · rw [decide_eq_true h', h1]
    · rw [decide_eq_false h']; exact h2 (by omega) (by omega)
theorem cmpI_lt (a b : Int) : decide (cmpI a b < 0) = decide (a < b) := by
  unfold cmpI; rw [decide_eq_decide]; split <;> (try split) <;> omega
theorem cmpI_zero (a b : Int) : (cmpI a b == 0) = (a == b) := by
  unfold cmpI; rw [Bool.eq_iff_iff, beq_iff_eq, beq_iff_eq]; split <;> (try split) <;> omega
theorem cmpT_lt (a b : ByteArray) : decide (cmpT a b < 0) = Op.bytesLess a.toList b.toList := by
  unfold cmpT
  cases h : Op.bytesLess a.toList b.toList with
  | true => simp
  | false => cases Op.bytesLess b.toList a.toList <;> simp
theorem cmpT_zero (a b : ByteArray) : (cmpT a b == 0) = (a.toList == b.toList) := by
  unfold cmpT
  rcases bytesLess_total a.toList b.toList with h | h | h
  · have : a.toList ≠ b.toList := by intro e; rw [e, bytesLess_irrefl] at h; cases h
    rw [if_pos h]; simp [this]
  · rw [h, bytesLess_irrefl]; simp
  · have h2 := bytesLess_asymm _ _ h
    have : a.toList ≠ b.toList := by intro e; rw [e, bytesLess_irrefl] at h; cases h
    rw [h2, h]; simp [this]
theorem right_empty {kd n sc : Int} {st : ByteArray} (h : rightB kd n sc st = true) (h0 : 0 ≤ kd) (h3 : kd ≤ 3) : st.toList = [] := by
  have e : noS st = true := by
    unfold rightB at h
    have c : kd = 0 ∨ kd = 1 ∨ kd = 2 ∨ kd = 3 := by omega
    rcases c with rfl | rfl | rfl | rfl
    · simp only [if_true, Bool.and_eq_true] at h; exact h.2.2
    · rw [if_neg (by decide), if_pos rfl] at h; simp only [Bool.and_eq_true] at h; exact h.2.2
    · rw [if_neg (by decide), if_neg (by decide), if_pos rfl] at h; simp only [Bool.and_eq_true] at h; exact h.2
    · rw [if_neg (by decide), if_neg (by decide), if_neg (by decide), if_pos rfl] at h; simp only [Bool.and_eq_true] at h; exact h.2
  simpa [noS] using e
theorem right_null {n sc : Int} {st : ByteArray} (h : rightB 0 n sc st = true) : n = 0 ∧ sc = 0 := by
  unfold rightB at h
  simp only [if_true, Bool.and_eq_true, beq_iff_eq] at h
  exact ⟨h.1, h.2.1⟩
theorem mic_inj {n1 n2 : Int} {s1 s2 : Nat} (h1 : RD n1 s1) (h2 : RD n2 s2) (h : n1 * p10 (6 - s1) = n2 * p10 (6 - s2)) : n1 = n2 ∧ s1 = s2 := by
  have a := red_same n1 s1 h1.nm
  have b := red_same n2 s2 h2.nm
  have c := red_tens n1 (6 - s1) s1
  have d := red_tens n2 (6 - s2) s2
  have e1 : s1 + (6 - s1) = 6 := by have := h1.sc; omega
  have e2 : s2 + (6 - s2) = 6 := by have := h2.sc; omega
  rw [e1, a] at c
  rw [e2, b, ← h, c] at d
  simpa using d
theorem ValKinds : federationlaw1_ValKinds.Pure := by
  intro a0 a1 a2 a3 a4 a5 w0 w1 w2 w3 z4 z5
  refine ⟨300, ?_⟩
  unfold federationlaw1_ValKinds.f
  rw [known_ge (by decide), Option.bind_some, if_pos rfl]
  refine sizes_or (fun b => federationlaw1_ValKinds.j0 300 a0 a1 a2 a3 a4 a5 b) rfl fun y4 y5 => ?_
  obtain ⟨n1, s1, t1, hm1, m1⟩ := Make_eq a0 a1 a4 (I64_of w0) (I64_of w1) (by omega)
  obtain ⟨n2, s2, t2, hm2, m2⟩ := Make_eq a2 a3 a5 (I64_of w2) (I64_of w3) (by omega)
  show federationlaw1_ValKinds.j0 (299 + 1) a0 a1 a2 a3 a4 a5 false = some true
  simp only [federationlaw1_ValKinds.j0]
  rw [if_neg (by decide), hm1 299 (by decide), Option.bind_some, hm2 299 (by decide), Option.bind_some]
  dsimp only
  rw [val_Order_eq 299 _ n1 s1 t1 _ n2 s2 t2 (by decide) (fun e => ⟨(m1.v.d e).sc, (m1.v.d e).lo, (m1.v.d e).hi⟩) (fun e => ⟨(m2.v.d e).sc, (m2.v.d e).lo, (m2.v.d e).hi⟩), Option.bind_some]
  have k0 := m1.k0; have k5 := m1.k5
  have q1 := m1.r; have q2 := m2.r
  have d1 := m1.v.d; have d2 := m2.v.d
  have x1 := m1.z; have x2 := m2.z
  generalize a0 % 6 = u at *
  generalize a2 % 6 = v at *
  unfold ordB
  by_cases e : u = v
  · subst e
    rw [if_pos rfl, if_pos rfl]
    simp only [federationlaw1_ValKinds.j1]
    have c : u = 0 ∨ u = 1 ∨ u = 2 ∨ u = 3 ∨ u = 4 ∨ u = 5 := by omega
    rcases c with c | c | c | c | c | c
    · subst c
      have f1 := right_null q1
      have f2 := right_null q2
      have g1 := right_empty q1 (by decide) (by decide)
      have g2 := right_empty q2 (by decide) (by decide)
      have hT : cmpT t1 t2 = 0 := by unfold cmpT; rw [g1, g2]; rfl
      rw [if_neg (by decide), if_neg (by decide), if_neg (by decide), if_neg (by decide), if_neg (by decide), if_neg (by decide), hT, g1, g2, f1.1, f1.2, f2.1, f2.2]
      rfl
    · subst c
      rw [if_neg (by decide), if_pos (Or.inl rfl), if_neg (by decide), if_pos rfl, cmpI_lt, cmpI_zero, if_pos (by simp)]
      simp
    · subst c
      rw [if_neg (by decide), if_pos (Or.inr rfl), if_neg (by decide), if_neg (by decide), if_pos rfl, cmpI_lt, cmpI_zero, if_pos (by simp)]
      simp
    · subst c
      have g1 := right_empty q1 (by decide) (by decide)
      have g2 := right_empty q2 (by decide) (by decide)
      rw [if_neg (by decide), if_neg (by decide), if_pos rfl, if_neg (by decide), if_neg (by decide), if_neg (by decide), cmpI_zero, g1, g2]
      unfold mic
      simp only [Int.toNat_natCast, beq_self_eq_true, Bool.true_and, Bool.and_true]
      congr 1
      rw [beq_iff_eq, Bool.eq_iff_iff]
      simp only [beq_iff_eq, Bool.and_eq_true]
      constructor
      · intro h
        have := mic_inj (d1 rfl) (d2 rfl) h
        exact ⟨this.1, by rw [this.2]⟩
      · rintro ⟨h, k⟩
        rw [h, show s1 = s2 by omega]
    · subst c
      have hO : (if (4 : Int) = 1 ∨ (4 : Int) = 2 then cmpI n1 n2 else if (4 : Int) = 3 then cmpI (mic n1 (s1 : Int)) (mic n2 (s2 : Int)) else cmpT t1 t2) = cmpT t1 t2 := by rw [if_neg (by decide), if_neg (by decide)]
      rw [hO]
      simp [cmpT_lt, cmpT_zero]
    · subst c
      have hO : (if (5 : Int) = 1 ∨ (5 : Int) = 2 then cmpI n1 n2 else if (5 : Int) = 3 then cmpI (mic n1 (s1 : Int)) (mic n2 (s2 : Int)) else cmpT t1 t2) = cmpT t1 t2 := by rw [if_neg (by decide), if_neg (by decide)]
      rw [hO]
      simp [cmpT_lt, cmpT_zero]
  · rw [if_neg e, if_neg e, cmpI_lt, if_pos (by simp)]
    have : (cmpI u v == 0) = false := by rw [cmpI_zero]; simpa using e
    simp only [bne, this]
    rfl
end Go.Proofs.Ytllkhdhanheieaa.Pure
