-- Written by drive.py and pack.py (programs of this proof's own) through the kit's printer; not trusted: Lean checks it.
import Derived.Test.YtjacflmgbmfhcaaCKeyTexts1
import Derived.Test.YtjacflmgbmfhcaaCKeyTexts3
namespace Go.Proofs.Ytjacflmgbmfhcaa.K
open Go.RowKit Go.Proofs.YtjacflmgbmfhcaaW.PrintWords Go.Proofs.YtjacflmgbmfhcaaW.PrintLast Go.Proofs.YtjacflmgbmfhcaaW.PrintMore
attribute [local go_sem] max2_int min2_int max_two min_two max_three min_three max_four min_four
attribute [local go_sem high] own_gtr own_leq own_geq own_cell_set Option.map_some fld24_3
set_option linter.unusedVariables false
set_option linter.unusedSimpArgs false
def key_read.j0 : Nat → ByteArray → Int → Int → Int → Int → ByteArray → Option (Int × Int × Int × ByteArray × Int × Bool)
  | 0, _, _, _, _, _, _ => none
  | k + 1, x1, x7, x102000, x102001, x102002, x102003 => (key_front.f x1 x7).bind fun bt109 => (if bt109.2 = true then (if x102000 = 1 then ((key_unsigned.f k bt109.1).bind fun t111 => (some (x102000, t111, x102002, x102003, x7, true))) else (if x102000 = 2 then ((key_unsigned.f k bt109.1).bind fun t112 => (some (x102000, Go.bits .xor .i64 t112 (-9223372036854775808), x102002, x102003, x7, true))) else (if x102000 = 3 then (if 0 ≤ 8 then (if 8 ≤ (bt109.1.size : Int) then ((key_unsigned.f k (bt109.1.extract 0 8)).bind fun t113 => ((key_unsigned.f k (bt109.1.extract 8 bt109.1.size)).bind fun t114 => ((key_decimal.f k (Go.bits .xor .i64 t113 (-9223372036854775808)) t114 x7).bind fun bt115 => (some (bt115.1, bt115.2.1, bt115.2.2.1, bt115.2.2.2.1, bt115.2.2.2.2.1, bt115.2.2.2.2.2))))) else (none)) else (none)) else (some (x102000, x102001, x102002, x102003, x7, true))))) else (some (0, 0, 0, (⟨#[]⟩ : ByteArray), 0, false)))
def key_read.f (k : Nat) (a0_0 : Int) (a0_1 : Int) (a0_2 : Int) (a0_3 : ByteArray) (a1 : ByteArray) : Option (Int × Int × Int × ByteArray × Int × Bool) := if a0_0 = 1 then (key_read.j0 k a1 1 a0_0 a0_1 a0_2 a0_3) else (if a0_0 = 2 then (key_read.j0 k a1 8 a0_0 a0_1 a0_2 a0_3) else (if a0_0 = 3 then (key_read.j0 k a1 12 a0_0 a0_1 a0_2 a0_3) else (if a0_0 = 4 then ((key_text.f k a1).bind fun bt103 => (some (a0_0, a0_1, a0_2, bt103.1, bt103.2.1, bt103.2.2))) else (if a0_0 = 5 then ((key_text.f k a1).bind fun bt106 => (some (a0_0, a0_1, a0_2, bt106.1, bt106.2.1, bt106.2.2))) else (key_read.j0 k a1 0 a0_0 a0_1 a0_2 a0_3)))))
theorem key_read.mono_l : ∀ k, (∀ y0 y1 y2 y3 y4 y5, LeO (key_read.j0 k y0 y1 y2 y3 y4 y5) (key_read.j0 (k + 1) y0 y1 y2 y3 y4 y5))
  | 0 => fun _ _ _ _ _ _ r h => by simp [key_read.j0] at h
  | k + 1 => by
    have ih0 := key_read.mono_l k
    · intro y0 y1 y2 y3 y4 y5
      unfold key_read.j0
      repeat' first
      | (with_reducible exact ih0 _ _ _ _ _ _)
      | (with_reducible exact key_decimal.mono _ _ _ _)
      | (with_reducible exact key_text.mono _ _)
      | (with_reducible exact key_unsigned.mono _ _)
      | (with_reducible exact LeO.refl _)
      | (with_reducible exact LeO.none _)
      | (with_reducible refine LeO.ite ?_ ?_)
      | (with_reducible refine LeO.bind ?_ (fun _ => ?_))
      | exact ih0 _ _ _ _ _ _
      | exact key_decimal.mono _ _ _ _
      | exact key_text.mono _ _
      | exact key_unsigned.mono _ _
      | exact LeO.none _
      | refine LeO.ite ?_ ?_
      | refine LeO.bind ?_ (fun _ => ?_)
theorem key_read.mono : ∀ a0 a1 a2 a3 a4 k, LeO (key_read.f k a0 a1 a2 a3 a4) (key_read.f (k + 1) a0 a1 a2 a3 a4) := by
  intro a0 a1 a2 a3 a4 k
  have ih0 := key_read.mono_l k
  unfold key_read.f
  repeat' first
      | (with_reducible exact ih0 _ _ _ _ _ _)
      | (with_reducible exact key_decimal.mono _ _ _ _)
      | (with_reducible exact key_text.mono _ _)
      | (with_reducible exact key_unsigned.mono _ _)
      | (with_reducible exact LeO.refl _)
      | (with_reducible exact LeO.none _)
      | (with_reducible refine LeO.ite ?_ ?_)
      | (with_reducible refine LeO.bind ?_ (fun _ => ?_))
      | exact ih0 _ _ _ _ _ _
      | exact key_decimal.mono _ _ _ _
      | exact key_text.mono _ _
      | exact key_unsigned.mono _ _
      | exact LeO.none _
      | refine LeO.ite ?_ ?_
      | refine LeO.bind ?_ (fun _ => ?_)
def key_read.T22 : Bool × List (List Nat × List Nat) := (true, [([], []), ([0], [0]), ([1], [1]), ([2], [2]), ([], []), ([4], [4]), ([5, 2], [5]), ([], []), ([3, 6, 7, 6], [3, 6, 7]), ([8], [8]), ([8], [8]), ([8], [8]), ([9, 8, 0, 1, 2, 3, 4, 5, 6, 7, 8, 9, 10, 11], [9]), ([10, 12, 0, 1, 2, 3, 4, 5, 6, 7, 8, 9, 10, 11, 12], [10]), ([11, 13, 0, 1, 2, 3, 4, 5, 6, 7, 8, 9, 10, 11, 12, 13], [11])])
def key_read.B22 : List Nat := [0, 1, 3, 7, 0, 16, 55, 0, 255, 511, 511, 511, 4095, 8191, 16383]
theorem key_read.tab22 : rtab .any (opsOf Try.f31 22) = key_read.T22 := by kernel_rfl
theorem key_read.bits22 : waitsOk key_read.T22.2 key_read.B22 = true := by kernel_rfl
set_option maxHeartbeats 8000000 in
set_option maxRecDepth 100000 in
theorem key_read.calls (k : Nat) (a0_0 : Int) (a0_1 : Int) (a0_2 : Int) (a0_3 : ByteArray) (a1 : ByteArray) (r1 : Int) (r2 : Int) (r3 : Int) (r4 : ByteArray) (r5 : Int) (r6 : Bool) (w : World) (h : key_read.f k a0_0 a0_1 a0_2 a0_3 a1 = some (r1, r2, r3, r4, r5, r6)) :
    Calls Try.prog 31 #[.agg #[.int .i64 a0_0, .int .i64 a0_1, .int .i64 a0_2, .string a0_3], .string a1] w fun e w' => e = .returned (.tuple #[.agg #[.int .i64 r1, .int .i64 r2, .int .i64 r3, .string r4], .int .i64 r5, .bool r6]) ∧ Below w.heap.size w w' := by
  have hu24 := Try.underlying24
  have HB := Aside0.mk (Below.refl w.heap.size w)
  have H : (if a0_0 = 1 then (key_read.j0 k a1 1 a0_0 a0_1 a0_2 a0_3) else (if a0_0 = 2 then (key_read.j0 k a1 8 a0_0 a0_1 a0_2 a0_3) else (if a0_0 = 3 then (key_read.j0 k a1 12 a0_0 a0_1 a0_2 a0_3) else (if a0_0 = 4 then ((key_text.f k a1).bind fun bt103 => (some (a0_0, a0_1, a0_2, bt103.1, bt103.2.1, bt103.2.2))) else (if a0_0 = 5 then ((key_text.f k a1).bind fun bt106 => (some (a0_0, a0_1, a0_2, bt106.1, bt106.2.1, bt106.2.2))) else (key_read.j0 k a1 0 a0_0 a0_1 a0_2 a0_3)))))) = some (r1, r2, r3, r4, r5, r6) := h
  clear h
  have HC3 := Aside0.mk H
  clear H
  go_enter Try.func31, Try.ntmps31
  go_upto_block 0 with (first | ((with_reducible refine gate_dst (N := 2) rfl ?_); refine box_event ?hg (N := 2) ?hd (cs := #[.int .i64 a0_0, .int .i64 a0_1, .int .i64 a0_2, .string a0_3]) (t := 24) ?hr ?_; (case hd => rfl); (case hg => rfl); (case hr => first | (go_simp; done) | (go_simp; rfl)); intro gb101 hg w4 hbox hb; have n0_ := Aside0.mk (below_step (by repeat (first | (with_reducible first | exact HB.out | apply below_alloc | apply pw_below_drewN | apply below_drew1) | exact HB.out)) hb); have n1_ := Aside0.mk (hbox); have n2_ := Aside0.mk ((by rw [hg]; exact (below_size (by repeat (first | (with_reducible first | exact HB.out | apply below_alloc | apply pw_below_drewN | apply below_drew1) | exact HB.out))) : w.heap.size ≤ gb101)); have n3_ := Aside0.mk ((by rw [hg]; exact (below_size (by repeat (first | (with_reducible first | exact HB.out | apply below_alloc | apply pw_below_drewN | apply below_drew1) | exact HB.out))) : w.heap.size ≤ gb101)); clear HB; have HB := n0_; have BK101 := n1_; have GW101 := n2_; have GE101 := n3_; clear n0_ n1_ n2_ n3_; clear hb hbox hg) | ((with_reducible refine gate_dst (N := 4) rfl ?_); refine box_event ?hg (N := 4) ?hd (cs := #[.int .i64 0, .int .i64 0, .int .i64 0, .string (⟨#[]⟩ : ByteArray)]) (t := 24) ?hr ?_; (case hd => rfl); (case hg => rfl); (case hr => first | (go_simp; done) | (go_simp; rfl)); intro gb102 hg w5 hbox hb; have n0_ := Aside0.mk (blk_below (g := gb101) (o := .cells #[.int .i64 a0_0, .int .i64 a0_1, .int .i64 a0_2, .string a0_3] 24 (0, 0)) (by (with_reducible repeat (first | refine blk_drewN ?_ _ | refine blk_drew ?_ | refine blk_alloc ?_ _)); exact BK101.out) hb); have n1_ := Aside0.mk (below_step (by repeat (first | (with_reducible first | exact HB.out | apply below_alloc | apply pw_below_drewN | apply below_drew1 | refine below_set ?_ GE101.out) | exact HB.out)) hb); have n2_ := Aside0.mk (hbox); have n3_ := Aside0.mk ((by rw [hg]; exact (below_size (by repeat (first | (with_reducible first | exact HB.out | apply below_alloc | apply pw_below_drewN | apply below_drew1 | refine below_set ?_ GE101.out) | exact HB.out))) : w.heap.size ≤ gb102)); have n4_ := Aside0.mk ((by rw [hg]; exact (below_size (by repeat (first | (with_reducible first | exact HB.out | apply below_alloc | apply pw_below_drewN | apply below_drew1 | refine below_set ?_ GE101.out) | exact HB.out))) : w.heap.size ≤ gb102)); have n5_ := Aside0.mk ((by rw [hg]; exact Nat.ne_of_lt (blk_lt (g := gb101) (o := .cells #[.int .i64 a0_0, .int .i64 a0_1, .int .i64 a0_2, .string a0_3] 24 (0, 0)) (by (with_reducible repeat (first | refine blk_drewN ?_ _ | refine blk_drew ?_ | refine blk_alloc ?_ _)); exact BK101.out)) : gb101 ≠ gb102)); have n6_ := Aside0.mk ((by rw [hg]; exact Nat.ne_of_gt (blk_lt (g := gb101) (o := .cells #[.int .i64 a0_0, .int .i64 a0_1, .int .i64 a0_2, .string a0_3] 24 (0, 0)) (by (with_reducible repeat (first | refine blk_drewN ?_ _ | refine blk_drew ?_ | refine blk_alloc ?_ _)); exact BK101.out)) : gb102 ≠ gb101)); clear BK101; clear HB; have BK101 := n0_; have HB := n1_; have BK102 := n2_; have GW102 := n3_; have GE102 := n4_; have NB101_102 := n5_; have NB102_101 := n6_; clear n0_ n1_ n2_ n3_ n4_ n5_ n6_; clear hb hbox hg; have hnb6 := NB101_102.out; have hnc6 := NB102_101.out; have hcz7_0 : w5.cell? ⟨gb101, 0, none⟩ = some (.int .i64 a0_0) := (blk_cell BK101.out 0).trans rfl; have hcz7_1 : w5.cell? ⟨gb101, 1, none⟩ = some (.int .i64 a0_1) := (blk_cell BK101.out 1).trans rfl; have hcz7_2 : w5.cell? ⟨gb101, 2, none⟩ = some (.int .i64 a0_2) := (blk_cell BK101.out 2).trans rfl; have hcz7_3 : w5.cell? ⟨gb101, 3, none⟩ = some (.string a0_3) := (blk_cell BK101.out 3).trans rfl; have hfz7_0 := blk_frozen BK101.out 0; have hfz7_1 := blk_frozen BK101.out 1; have hfz7_2 := blk_frozen BK101.out 2; have hfz7_3 := blk_frozen BK101.out 3))
  (try simp only [Act.put, List.setIfInBounds_toArray, List.set_cons_zero, List.set_cons_succ])
  go_cut [7] (fun v7 wc => ∃ (kq : Nat) (x7_2 : Int) (x102003_2 : ByteArray) (x103000_2 : Int) (x103001_2 : Int) (x103002_2 : Int) (x103003_2 : ByteArray), v7 = .int .i64 x7_2 ∧ Aside0 (key_read.j0 kq a1 x7_2 a0_0 a0_1 a0_2 x102003_2 = some (r1, r2, r3, r4, r5, r6)) ∧ Aside0 (kq ≤ k) ∧ Aside0 (wc.heap[gb101]? = some (.cells #[.int .i64 a0_0, .int .i64 a0_1, .int .i64 a0_2, .string x102003_2] 24 (0, 0))) ∧ Aside0 (wc.heap[gb102]? = some (.cells #[.int .i64 x103000_2, .int .i64 x103001_2, .int .i64 x103002_2, .string x103003_2] 24 (0, 0))) ∧ Aside0 (Below w.heap.size w wc))
  case first =>
    have H := HC3.out
    clear HC3
    by_cases c8 : a0_0 = 1
    · rw [if_pos c8] at H
      have c8b0 : (a0_0 == 1) = true := beq_iff_eq.mpr c8
      have c8b1 : (a0_0 != 1) = false := bne_eq_false_iff_eq.mpr c8
      clear c8
      (first | rw [c8b0] | (simp only [i64_w, i32_w]; rw [c8b0]) | skip)
      have H' := Aside0.mk H
      clear H
      go_wp2
      go_meet
      case rel => exact ⟨_, (1), (a0_3), (0), (0), (0), ((⟨#[]⟩ : ByteArray)), (by first | rfl | (simp; done) | (simp [*]; done)), H', ⟨by first | omega | exact Nat.le_refl _⟩, ⟨by (with_reducible repeat (first | refine blk_drewN ?_ _ | refine blk_drew ?_ | refine blk_alloc ?_ _)); exact BK101.out⟩, ⟨by (with_reducible repeat (first | refine blk_drewN ?_ _ | refine blk_drew ?_ | refine blk_alloc ?_ _)); exact BK102.out⟩, ⟨by repeat (first | (with_reducible first | exact HB.out | apply below_alloc | apply pw_below_drewN | apply below_drew1 | refine below_set ?_ GE101.out | refine below_set ?_ GE102.out) | exact HB.out)⟩⟩
    · rw [if_neg c8] at H
      have c8b0 : (a0_0 == 1) = false := beq_eq_false_iff_ne.mpr c8
      have c8b1 : (a0_0 != 1) = true := bne_iff_ne.mpr c8
      (first | rw [c8b0] | (simp only [i64_w, i32_w]; rw [c8b0]) | skip)
      by_cases c9 : a0_0 = 2
      · rw [if_pos c9] at H
        have c9b0 : (a0_0 == 2) = true := beq_iff_eq.mpr c9
        have c9b1 : (a0_0 != 2) = false := bne_eq_false_iff_eq.mpr c9
        clear c9
        have H' := Aside0.mk H
        clear H
        go_wp2
        go_meet
        case rel => exact ⟨_, (8), (a0_3), (0), (0), (0), ((⟨#[]⟩ : ByteArray)), (by first | rfl | (simp; done) | (simp [*]; done)), H', ⟨by first | omega | exact Nat.le_refl _⟩, ⟨by (with_reducible repeat (first | refine blk_drewN ?_ _ | refine blk_drew ?_ | refine blk_alloc ?_ _)); exact BK101.out⟩, ⟨by (with_reducible repeat (first | refine blk_drewN ?_ _ | refine blk_drew ?_ | refine blk_alloc ?_ _)); exact BK102.out⟩, ⟨by repeat (first | (with_reducible first | exact HB.out | apply below_alloc | apply pw_below_drewN | apply below_drew1 | refine below_set ?_ GE101.out | refine below_set ?_ GE102.out) | exact HB.out)⟩⟩
      · rw [if_neg c9] at H
        have c9b0 : (a0_0 == 2) = false := beq_eq_false_iff_ne.mpr c9
        have c9b1 : (a0_0 != 2) = true := bne_iff_ne.mpr c9
        by_cases c10 : a0_0 = 3
        · rw [if_pos c10] at H
          have c10b0 : (a0_0 == 3) = true := beq_iff_eq.mpr c10
          have c10b1 : (a0_0 != 3) = false := bne_eq_false_iff_eq.mpr c10
          clear c10
          have H' := Aside0.mk H
          clear H
          go_wp2
          go_meet
          case rel => exact ⟨_, (12), (a0_3), (0), (0), (0), ((⟨#[]⟩ : ByteArray)), (by first | rfl | (simp; done) | (simp [*]; done)), H', ⟨by first | omega | exact Nat.le_refl _⟩, ⟨by (with_reducible repeat (first | refine blk_drewN ?_ _ | refine blk_drew ?_ | refine blk_alloc ?_ _)); exact BK101.out⟩, ⟨by (with_reducible repeat (first | refine blk_drewN ?_ _ | refine blk_drew ?_ | refine blk_alloc ?_ _)); exact BK102.out⟩, ⟨by repeat (first | (with_reducible first | exact HB.out | apply below_alloc | apply pw_below_drewN | apply below_drew1 | refine below_set ?_ GE101.out | refine below_set ?_ GE102.out) | exact HB.out)⟩⟩
        · rw [if_neg c10] at H
          have c10b0 : (a0_0 == 3) = false := beq_eq_false_iff_ne.mpr c10
          have c10b1 : (a0_0 != 3) = true := bne_iff_ne.mpr c10
          by_cases c11 : a0_0 = 4
          · rw [if_pos c11] at H
            have c11b0 : (a0_0 == 4) = true := beq_iff_eq.mpr c11
            have c11b1 : (a0_0 != 4) = false := bne_eq_false_iff_eq.mpr c11
            clear c11
            replace H := Option.bind_eq_some_iff.mp H
            obtain ⟨⟨t103, t104, t105⟩, A120, H⟩ := H
            replace H : (some (a0_0, a0_1, a0_2, t103, t104, t105)) = some (r1, r2, r3, r4, r5, r6) := H
            have A12 := Aside0.mk A120
            clear A120
            simp only [Option.some.injEq, Prod.mk.injEq] at H
            obtain ⟨rfl, rfl, rfl, rfl, rfl, rfl⟩ := H
            go_wp2_with (first | ((with_reducible refine gate_callee (f := 43) rfl ?_); refine goesL_ (some 26) rfl rfl Try.func43 (by kernel_rfl) rfl #[.string a1] rfl (by (try simp only [List.map_toArray, List.map_cons, List.map_nil]); first | done | rfl | (simp only [List.length_drop, List.length_take]; rfl)) ?_; (with_reducible refine (key_text.calls k a1 t103 t104 t105 _ A12.out).mono ?_); rintro e w13 ⟨rfl, hb⟩; refine ⟨_, rfl, ?_⟩; have n0_ := Aside0.mk (blk_below (g := gb101) (o := .cells #[.int .i64 a0_0, .int .i64 a0_1, .int .i64 a0_2, .string a0_3] 24 (0, 0)) (by (with_reducible repeat (first | refine blk_drewN ?_ _ | refine blk_drew ?_ | refine blk_alloc ?_ _)); exact BK101.out) hb); have n1_ := Aside0.mk (blk_below (g := gb102) (o := .cells #[.int .i64 0, .int .i64 0, .int .i64 0, .string (⟨#[]⟩ : ByteArray)] 24 (0, 0)) (by (with_reducible repeat (first | refine blk_drewN ?_ _ | refine blk_drew ?_ | refine blk_alloc ?_ _)); exact BK102.out) hb); have n2_ := Aside0.mk (below_step (by repeat (first | (with_reducible first | exact HB.out | apply below_alloc | apply pw_below_drewN | apply below_drew1 | refine below_set ?_ GE101.out | refine below_set ?_ GE102.out) | exact HB.out)) hb); clear BK101; clear BK102; clear HB; have BK101 := n0_; have BK102 := n1_; have HB := n2_; clear n0_ n1_ n2_; (try clear hb); (try clear hb2); (try clear hk); (try clear hi); have hnb14 := NB101_102.out; have hnc14 := NB102_101.out; have hcz15_0 : w13.cell? ⟨gb101, 0, none⟩ = some (.int .i64 a0_0) := (blk_cell BK101.out 0).trans rfl; have hcz15_1 : w13.cell? ⟨gb101, 1, none⟩ = some (.int .i64 a0_1) := (blk_cell BK101.out 1).trans rfl; have hcz15_2 : w13.cell? ⟨gb101, 2, none⟩ = some (.int .i64 a0_2) := (blk_cell BK101.out 2).trans rfl; have hcz15_3 : w13.cell? ⟨gb101, 3, none⟩ = some (.string a0_3) := (blk_cell BK101.out 3).trans rfl; have hfz15_0 := blk_frozen BK101.out 0; have hfz15_1 := blk_frozen BK101.out 1; have hfz15_2 := blk_frozen BK101.out 2; have hfz15_3 := blk_frozen BK101.out 3; have hcz16_0 : w13.cell? ⟨gb102, 0, none⟩ = some (.int .i64 0) := (blk_cell BK102.out 0).trans rfl; have hcz16_1 : w13.cell? ⟨gb102, 1, none⟩ = some (.int .i64 0) := (blk_cell BK102.out 1).trans rfl; have hcz16_2 : w13.cell? ⟨gb102, 2, none⟩ = some (.int .i64 0) := (blk_cell BK102.out 2).trans rfl; have hcz16_3 : w13.cell? ⟨gb102, 3, none⟩ = some (.string (⟨#[]⟩ : ByteArray)) := (blk_cell BK102.out 3).trans rfl; have hfz16_0 := blk_frozen BK102.out 0; have hfz16_1 := blk_frozen BK102.out 1; have hfz16_2 := blk_frozen BK102.out 2; have hfz16_3 := blk_frozen BK102.out 3))
            refine bodyPost_ret (results_ctt rfl _ _ gb102 24 #[.int .i64 a0_0, .int .i64 a0_1, .int .i64 a0_2, .string t103] (0, 0) _ rfl (by (with_reducible repeat (first | refine blk_drewN ?_ _ | refine blk_drew ?_ | refine blk_alloc ?_ _)); refine blk_put (cs := #[.int .i64 a0_0, .int .i64 a0_1, .int .i64 a0_2, .string (⟨#[]⟩ : ByteArray)]) ?_ 3 _ rfl; (with_reducible repeat (first | refine blk_drewN ?_ _ | refine blk_drew ?_ | refine blk_alloc ?_ _)); refine blk_put (cs := #[.int .i64 a0_0, .int .i64 a0_1, .int .i64 0, .string (⟨#[]⟩ : ByteArray)]) ?_ 2 _ rfl; (with_reducible repeat (first | refine blk_drewN ?_ _ | refine blk_drew ?_ | refine blk_alloc ?_ _)); refine blk_put (cs := #[.int .i64 a0_0, .int .i64 0, .int .i64 0, .string (⟨#[]⟩ : ByteArray)]) ?_ 1 _ rfl; (with_reducible repeat (first | refine blk_drewN ?_ _ | refine blk_drew ?_ | refine blk_alloc ?_ _)); refine blk_put (cs := #[.int .i64 0, .int .i64 0, .int .i64 0, .string (⟨#[]⟩ : ByteArray)]) ?_ 0 _ rfl; (with_reducible repeat (first | refine blk_drewN ?_ _ | refine blk_drew ?_ | refine blk_alloc ?_ _)); refine blk_far ?_ NB102_101.out _; (with_reducible repeat (first | refine blk_drewN ?_ _ | refine blk_drew ?_ | refine blk_alloc ?_ _)); exact BK102.out) Try.underlying24 rfl (by kernel_rfl)) rfl ?_
            exact ⟨by first | rfl | (simp [errW_none, errW_some] <;> rfl) | (simp [*, errW_none, errW_some] <;> rfl), by repeat (first | (with_reducible first | exact HB.out | apply below_alloc | apply pw_below_drewN | apply below_drew1 | refine below_set ?_ GE101.out | refine below_set ?_ GE102.out) | exact HB.out)⟩
          · rw [if_neg c11] at H
            have c11b0 : (a0_0 == 4) = false := beq_eq_false_iff_ne.mpr c11
            have c11b1 : (a0_0 != 4) = true := bne_iff_ne.mpr c11
            by_cases c17 : a0_0 = 5
            · rw [if_pos c17] at H
              have c17b0 : (a0_0 == 5) = true := beq_iff_eq.mpr c17
              have c17b1 : (a0_0 != 5) = false := bne_eq_false_iff_eq.mpr c17
              clear c17
              replace H := Option.bind_eq_some_iff.mp H
              obtain ⟨⟨t106, t107, t108⟩, A180, H⟩ := H
              replace H : (some (a0_0, a0_1, a0_2, t106, t107, t108)) = some (r1, r2, r3, r4, r5, r6) := H
              have A18 := Aside0.mk A180
              clear A180
              simp only [Option.some.injEq, Prod.mk.injEq] at H
              obtain ⟨rfl, rfl, rfl, rfl, rfl, rfl⟩ := H
              go_wp2_with (first | ((with_reducible refine gate_callee (f := 43) rfl ?_); refine goesL_ (some 26) rfl rfl Try.func43 (by kernel_rfl) rfl #[.string a1] rfl (by (try simp only [List.map_toArray, List.map_cons, List.map_nil]); first | done | rfl | (simp only [List.length_drop, List.length_take]; rfl)) ?_; (with_reducible refine (key_text.calls k a1 t106 t107 t108 _ A18.out).mono ?_); rintro e w19 ⟨rfl, hb⟩; refine ⟨_, rfl, ?_⟩; have n0_ := Aside0.mk (blk_below (g := gb101) (o := .cells #[.int .i64 a0_0, .int .i64 a0_1, .int .i64 a0_2, .string a0_3] 24 (0, 0)) (by (with_reducible repeat (first | refine blk_drewN ?_ _ | refine blk_drew ?_ | refine blk_alloc ?_ _)); exact BK101.out) hb); have n1_ := Aside0.mk (blk_below (g := gb102) (o := .cells #[.int .i64 0, .int .i64 0, .int .i64 0, .string (⟨#[]⟩ : ByteArray)] 24 (0, 0)) (by (with_reducible repeat (first | refine blk_drewN ?_ _ | refine blk_drew ?_ | refine blk_alloc ?_ _)); exact BK102.out) hb); have n2_ := Aside0.mk (below_step (by repeat (first | (with_reducible first | exact HB.out | apply below_alloc | apply pw_below_drewN | apply below_drew1 | refine below_set ?_ GE101.out | refine below_set ?_ GE102.out) | exact HB.out)) hb); clear BK101; clear BK102; clear HB; have BK101 := n0_; have BK102 := n1_; have HB := n2_; clear n0_ n1_ n2_; (try clear hb); (try clear hb2); (try clear hk); (try clear hi); have hnb20 := NB101_102.out; have hnc20 := NB102_101.out; have hcz21_0 : w19.cell? ⟨gb101, 0, none⟩ = some (.int .i64 a0_0) := (blk_cell BK101.out 0).trans rfl; have hcz21_1 : w19.cell? ⟨gb101, 1, none⟩ = some (.int .i64 a0_1) := (blk_cell BK101.out 1).trans rfl; have hcz21_2 : w19.cell? ⟨gb101, 2, none⟩ = some (.int .i64 a0_2) := (blk_cell BK101.out 2).trans rfl; have hcz21_3 : w19.cell? ⟨gb101, 3, none⟩ = some (.string a0_3) := (blk_cell BK101.out 3).trans rfl; have hfz21_0 := blk_frozen BK101.out 0; have hfz21_1 := blk_frozen BK101.out 1; have hfz21_2 := blk_frozen BK101.out 2; have hfz21_3 := blk_frozen BK101.out 3; have hcz22_0 : w19.cell? ⟨gb102, 0, none⟩ = some (.int .i64 0) := (blk_cell BK102.out 0).trans rfl; have hcz22_1 : w19.cell? ⟨gb102, 1, none⟩ = some (.int .i64 0) := (blk_cell BK102.out 1).trans rfl; have hcz22_2 : w19.cell? ⟨gb102, 2, none⟩ = some (.int .i64 0) := (blk_cell BK102.out 2).trans rfl; have hcz22_3 : w19.cell? ⟨gb102, 3, none⟩ = some (.string (⟨#[]⟩ : ByteArray)) := (blk_cell BK102.out 3).trans rfl; have hfz22_0 := blk_frozen BK102.out 0; have hfz22_1 := blk_frozen BK102.out 1; have hfz22_2 := blk_frozen BK102.out 2; have hfz22_3 := blk_frozen BK102.out 3))
              refine bodyPost_ret (results_ctt rfl _ _ gb102 24 #[.int .i64 a0_0, .int .i64 a0_1, .int .i64 a0_2, .string t106] (0, 0) _ rfl (by (with_reducible repeat (first | refine blk_drewN ?_ _ | refine blk_drew ?_ | refine blk_alloc ?_ _)); refine blk_put (cs := #[.int .i64 a0_0, .int .i64 a0_1, .int .i64 a0_2, .string (⟨#[]⟩ : ByteArray)]) ?_ 3 _ rfl; (with_reducible repeat (first | refine blk_drewN ?_ _ | refine blk_drew ?_ | refine blk_alloc ?_ _)); refine blk_put (cs := #[.int .i64 a0_0, .int .i64 a0_1, .int .i64 0, .string (⟨#[]⟩ : ByteArray)]) ?_ 2 _ rfl; (with_reducible repeat (first | refine blk_drewN ?_ _ | refine blk_drew ?_ | refine blk_alloc ?_ _)); refine blk_put (cs := #[.int .i64 a0_0, .int .i64 0, .int .i64 0, .string (⟨#[]⟩ : ByteArray)]) ?_ 1 _ rfl; (with_reducible repeat (first | refine blk_drewN ?_ _ | refine blk_drew ?_ | refine blk_alloc ?_ _)); refine blk_put (cs := #[.int .i64 0, .int .i64 0, .int .i64 0, .string (⟨#[]⟩ : ByteArray)]) ?_ 0 _ rfl; (with_reducible repeat (first | refine blk_drewN ?_ _ | refine blk_drew ?_ | refine blk_alloc ?_ _)); refine blk_far ?_ NB102_101.out _; (with_reducible repeat (first | refine blk_drewN ?_ _ | refine blk_drew ?_ | refine blk_alloc ?_ _)); exact BK102.out) Try.underlying24 rfl (by kernel_rfl)) rfl ?_
              exact ⟨by first | rfl | (simp [errW_none, errW_some] <;> rfl) | (simp [*, errW_none, errW_some] <;> rfl), by repeat (first | (with_reducible first | exact HB.out | apply below_alloc | apply pw_below_drewN | apply below_drew1 | refine below_set ?_ GE101.out | refine below_set ?_ GE102.out) | exact HB.out)⟩
            · rw [if_neg c17] at H
              have c17b0 : (a0_0 == 5) = false := beq_eq_false_iff_ne.mpr c17
              have c17b1 : (a0_0 != 5) = true := bne_iff_ne.mpr c17
              have H' := Aside0.mk H
              clear H
              go_wp2
              go_meet
              case rel => exact ⟨_, (0), (a0_3), (0), (0), (0), ((⟨#[]⟩ : ByteArray)), (by first | rfl | (simp; done) | (simp [*]; done)), H', ⟨by first | omega | exact Nat.le_refl _⟩, ⟨by (with_reducible repeat (first | refine blk_drewN ?_ _ | refine blk_drew ?_ | refine blk_alloc ?_ _)); exact BK101.out⟩, ⟨by (with_reducible repeat (first | refine blk_drewN ?_ _ | refine blk_drew ?_ | refine blk_alloc ?_ _)); exact BK102.out⟩, ⟨by repeat (first | (with_reducible first | exact HB.out | apply below_alloc | apply pw_below_drewN | apply below_drew1 | refine below_set ?_ GE101.out | refine below_set ?_ GE102.out) | exact HB.out)⟩⟩
  case rest =>
    clear HC3
    try clear c1
    try clear c2
    try clear p2
    try clear c3
    try clear c4
    try clear c6
    try clear c8
    try clear c8b0
    try clear c8b1
    try clear c9
    try clear c9b0
    try clear c9b1
    try clear c10
    try clear c10b0
    try clear c10b1
    try clear c11
    try clear c11b0
    try clear c11b1
    try clear c14
    try clear c17
    try clear c17b0
    try clear c17b1
    try clear c20
    try clear hcz15_0
    try clear hcz15_1
    try clear hcz15_2
    try clear hcz15_3
    try clear hcz16_0
    try clear hcz16_1
    try clear hcz16_2
    try clear hcz16_3
    try clear hcz21_0
    try clear hcz21_1
    try clear hcz21_2
    try clear hcz21_3
    try clear hcz22_0
    try clear hcz22_1
    try clear hcz22_2
    try clear hcz22_3
    try clear hcz7_0
    try clear hcz7_1
    try clear hcz7_2
    try clear hcz7_3
    try clear hfz15_0
    try clear hfz15_1
    try clear hfz15_2
    try clear hfz15_3
    try clear hfz16_0
    try clear hfz16_1
    try clear hfz16_2
    try clear hfz16_3
    try clear hfz21_0
    try clear hfz21_1
    try clear hfz21_2
    try clear hfz21_3
    try clear hfz22_0
    try clear hfz22_1
    try clear hfz22_2
    try clear hfz22_3
    try clear hfz7_0
    try clear hfz7_1
    try clear hfz7_2
    try clear hfz7_3
    obtain ⟨kq, x7_2, x102003_2, x103000_2, x103001_2, x103002_2, x103003_2, rfl, HA, HJ2, BK101, BK102, HB⟩ := hcut
    cases kq with
    | zero => exact absurd HA.out (by simp [key_read.j0])
    | succ kj2 =>
      have H := HA.out
      clear HA
      simp only [key_read.j0] at H
      replace H := Option.bind_eq_some_iff.mp H
      obtain ⟨⟨t109, t110⟩, A230, H⟩ := H
      replace H : (if t110 = true then (if a0_0 = 1 then ((key_unsigned.f kj2 t109).bind fun t111 => (some (a0_0, t111, a0_2, x102003_2, x7_2, true))) else (if a0_0 = 2 then ((key_unsigned.f kj2 t109).bind fun t112 => (some (a0_0, Go.bits .xor .i64 t112 (-9223372036854775808), a0_2, x102003_2, x7_2, true))) else (if a0_0 = 3 then (if 0 ≤ 8 then (if 8 ≤ (t109.size : Int) then ((key_unsigned.f kj2 (t109.extract 0 8)).bind fun t113 => ((key_unsigned.f kj2 (t109.extract 8 t109.size)).bind fun t114 => ((key_decimal.f kj2 (Go.bits .xor .i64 t113 (-9223372036854775808)) t114 x7_2).bind fun bt115 => (some (bt115.1, bt115.2.1, bt115.2.2.1, bt115.2.2.2.1, bt115.2.2.2.2.1, bt115.2.2.2.2.2))))) else (none)) else (none)) else (some (a0_0, a0_1, a0_2, x102003_2, x7_2, true))))) else (some (0, 0, 0, (⟨#[]⟩ : ByteArray), 0, false))) = some (r1, r2, r3, r4, r5, r6) := H
      have A23 := Aside0.mk A230
      clear A230
      by_cases c24 : t110 = true
      · subst c24
        have H1 : (if a0_0 = 1 then ((key_unsigned.f kj2 t109).bind fun t111 => (some (a0_0, t111, a0_2, x102003_2, x7_2, true))) else (if a0_0 = 2 then ((key_unsigned.f kj2 t109).bind fun t112 => (some (a0_0, Go.bits .xor .i64 t112 (-9223372036854775808), a0_2, x102003_2, x7_2, true))) else (if a0_0 = 3 then (if 0 ≤ 8 then (if 8 ≤ (t109.size : Int) then ((key_unsigned.f kj2 (t109.extract 0 8)).bind fun t113 => ((key_unsigned.f kj2 (t109.extract 8 t109.size)).bind fun t114 => ((key_decimal.f kj2 (Go.bits .xor .i64 t113 (-9223372036854775808)) t114 x7_2).bind fun bt115 => (some (bt115.1, bt115.2.1, bt115.2.2.1, bt115.2.2.2.1, bt115.2.2.2.2.1, bt115.2.2.2.2.2))))) else (none)) else (none)) else (some (a0_0, a0_1, a0_2, x102003_2, x7_2, true))))) = some (r1, r2, r3, r4, r5, r6) := by rw [if_pos rfl] at H; exact H
        clear H
        have H := H1
        clear H1
        by_cases c25 : a0_0 = 1
        · rw [if_pos c25] at H
          have c25b0 : (a0_0 == 1) = true := beq_iff_eq.mpr c25
          have c25b1 : (a0_0 != 1) = false := bne_eq_false_iff_eq.mpr c25
          clear c25
          replace H := Option.bind_eq_some_iff.mp H
          obtain ⟨t111, A260, H⟩ := H
          replace H : (some (a0_0, t111, a0_2, x102003_2, x7_2, true)) = some (r1, r2, r3, r4, r5, r6) := H
          have A26 := Aside0.mk A260
          clear A260
          simp only [Option.some.injEq, Prod.mk.injEq] at H
          obtain ⟨rfl, rfl, rfl, rfl, rfl, rfl⟩ := H
          go_wp2_with (first | ((with_reducible refine gate_callee (f := 44) rfl ?_); refine goesL_ (some 38) rfl rfl Try.func44 (by kernel_rfl) rfl #[.string a1, .int .i64 x7_2] rfl (by (try simp only [List.map_toArray, List.map_cons, List.map_nil]); first | done | rfl | (simp only [List.length_drop, List.length_take]; rfl)) ?_; (with_reducible refine (key_front.calls a1 x7_2 t109 true _ A23.out).mono ?_); rintro e w' ⟨rfl, ⟨nd, rfl⟩⟩; refine ⟨_, rfl, ?_⟩; (try (rw [drewN_self wc]; generalize hq_ : World.drewN wc _ = wc; have n0_ : Aside0 (wc.heap[gb101]? = some (.cells #[.int .i64 a0_0, .int .i64 a0_1, .int .i64 a0_2, .string x102003_2] 24 (0, 0))) := ⟨by rw [← hq_]; exact (by (with_reducible repeat (first | refine blk_drewN ?_ _ | refine blk_drew ?_ | refine blk_alloc ?_ _)); exact BK101.out)⟩; have n1_ : Aside0 (wc.heap[gb102]? = some (.cells #[.int .i64 x103000_2, .int .i64 x103001_2, .int .i64 x103002_2, .string x103003_2] 24 (0, 0))) := ⟨by rw [← hq_]; exact (by (with_reducible repeat (first | refine blk_drewN ?_ _ | refine blk_drew ?_ | refine blk_alloc ?_ _)); exact BK102.out)⟩; have n2_ : Aside0 (Below w.heap.size w wc) := ⟨by rw [← hq_]; exact (by repeat (first | (with_reducible first | exact HB.out | apply below_alloc | apply pw_below_drewN | apply below_drew1 | refine below_set ?_ GE101.out | refine below_set ?_ GE102.out) | exact HB.out))⟩; clear BK101 BK102 HB hq_; have BK101 := n0_; have BK102 := n1_; have HB := n2_; clear n0_ n1_ n2_)); (try have hcu27_0 : wc.cell? ⟨gb101, 0, none⟩ = some (.int .i64 a0_0) := (blk_cell BK101.out 0).trans rfl); (try have hcu27_1 : wc.cell? ⟨gb101, 1, none⟩ = some (.int .i64 a0_1) := (blk_cell BK101.out 1).trans rfl); (try have hcu27_2 : wc.cell? ⟨gb101, 2, none⟩ = some (.int .i64 a0_2) := (blk_cell BK101.out 2).trans rfl); (try have hcu27_3 : wc.cell? ⟨gb101, 3, none⟩ = some (.string x102003_2) := (blk_cell BK101.out 3).trans rfl); (try have hfu27_0 := blk_frozen BK101.out 0); (try have hfu27_1 := blk_frozen BK101.out 1); (try have hfu27_2 := blk_frozen BK101.out 2); (try have hfu27_3 := blk_frozen BK101.out 3); (try have hcu28_0 : wc.cell? ⟨gb102, 0, none⟩ = some (.int .i64 x103000_2) := (blk_cell BK102.out 0).trans rfl); (try have hcu28_1 : wc.cell? ⟨gb102, 1, none⟩ = some (.int .i64 x103001_2) := (blk_cell BK102.out 1).trans rfl); (try have hcu28_2 : wc.cell? ⟨gb102, 2, none⟩ = some (.int .i64 x103002_2) := (blk_cell BK102.out 2).trans rfl); (try have hcu28_3 : wc.cell? ⟨gb102, 3, none⟩ = some (.string x103003_2) := (blk_cell BK102.out 3).trans rfl); (try have hfu28_0 := blk_frozen BK102.out 0); (try have hfu28_1 := blk_frozen BK102.out 1); (try have hfu28_2 := blk_frozen BK102.out 2); (try have hfu28_3 := blk_frozen BK102.out 3); have hnb29 := NB101_102.out; have hnc29 := NB102_101.out; have hcz30_0 : wc.cell? ⟨gb101, 0, none⟩ = some (.int .i64 a0_0) := (blk_cell BK101.out 0).trans rfl; have hcz30_1 : wc.cell? ⟨gb101, 1, none⟩ = some (.int .i64 a0_1) := (blk_cell BK101.out 1).trans rfl; have hcz30_2 : wc.cell? ⟨gb101, 2, none⟩ = some (.int .i64 a0_2) := (blk_cell BK101.out 2).trans rfl; have hcz30_3 : wc.cell? ⟨gb101, 3, none⟩ = some (.string x102003_2) := (blk_cell BK101.out 3).trans rfl; have hfz30_0 := blk_frozen BK101.out 0; have hfz30_1 := blk_frozen BK101.out 1; have hfz30_2 := blk_frozen BK101.out 2; have hfz30_3 := blk_frozen BK101.out 3) | ((with_reducible refine gate_callee (f := 45) rfl ?_); refine goesL_ (some 50) rfl rfl Try.func45 (by kernel_rfl) rfl #[.string t109] rfl (by (try simp only [List.map_toArray, List.map_cons, List.map_nil]); first | done | rfl | (simp only [List.length_drop, List.length_take]; rfl)) ?_; (with_reducible refine (key_unsigned.calls kj2 t109 t111 _ A26.out).mono ?_); rintro e w' ⟨rfl, ⟨nd, rfl⟩⟩; refine ⟨_, rfl, ?_⟩; (try (rw [drewN_self wc]; generalize hq_ : World.drewN wc _ = wc; have n0_ : Aside0 (wc.heap[gb101]? = some (.cells #[.int .i64 a0_0, .int .i64 a0_1, .int .i64 a0_2, .string x102003_2] 24 (0, 0))) := ⟨by rw [← hq_]; exact (by (with_reducible repeat (first | refine blk_drewN ?_ _ | refine blk_drew ?_ | refine blk_alloc ?_ _)); exact BK101.out)⟩; have n1_ : Aside0 (wc.heap[gb102]? = some (.cells #[.int .i64 x103000_2, .int .i64 x103001_2, .int .i64 x103002_2, .string x103003_2] 24 (0, 0))) := ⟨by rw [← hq_]; exact (by (with_reducible repeat (first | refine blk_drewN ?_ _ | refine blk_drew ?_ | refine blk_alloc ?_ _)); exact BK102.out)⟩; have n2_ : Aside0 (Below w.heap.size w wc) := ⟨by rw [← hq_]; exact (by repeat (first | (with_reducible first | exact HB.out | apply below_alloc | apply pw_below_drewN | apply below_drew1 | refine below_set ?_ GE101.out | refine below_set ?_ GE102.out) | exact HB.out))⟩; clear BK101 BK102 HB hq_; have BK101 := n0_; have BK102 := n1_; have HB := n2_; clear n0_ n1_ n2_)); (try have hcu31_0 : wc.cell? ⟨gb101, 0, none⟩ = some (.int .i64 a0_0) := (blk_cell BK101.out 0).trans rfl); (try have hcu31_1 : wc.cell? ⟨gb101, 1, none⟩ = some (.int .i64 a0_1) := (blk_cell BK101.out 1).trans rfl); (try have hcu31_2 : wc.cell? ⟨gb101, 2, none⟩ = some (.int .i64 a0_2) := (blk_cell BK101.out 2).trans rfl); (try have hcu31_3 : wc.cell? ⟨gb101, 3, none⟩ = some (.string x102003_2) := (blk_cell BK101.out 3).trans rfl); (try have hfu31_0 := blk_frozen BK101.out 0); (try have hfu31_1 := blk_frozen BK101.out 1); (try have hfu31_2 := blk_frozen BK101.out 2); (try have hfu31_3 := blk_frozen BK101.out 3); (try have hcu32_0 : wc.cell? ⟨gb102, 0, none⟩ = some (.int .i64 x103000_2) := (blk_cell BK102.out 0).trans rfl); (try have hcu32_1 : wc.cell? ⟨gb102, 1, none⟩ = some (.int .i64 x103001_2) := (blk_cell BK102.out 1).trans rfl); (try have hcu32_2 : wc.cell? ⟨gb102, 2, none⟩ = some (.int .i64 x103002_2) := (blk_cell BK102.out 2).trans rfl); (try have hcu32_3 : wc.cell? ⟨gb102, 3, none⟩ = some (.string x103003_2) := (blk_cell BK102.out 3).trans rfl); (try have hfu32_0 := blk_frozen BK102.out 0); (try have hfu32_1 := blk_frozen BK102.out 1); (try have hfu32_2 := blk_frozen BK102.out 2); (try have hfu32_3 := blk_frozen BK102.out 3); have hcz33_0 : wc.cell? ⟨gb102, 0, none⟩ = some (.int .i64 x103000_2) := (blk_cell BK102.out 0).trans rfl; have hcz33_1 : wc.cell? ⟨gb102, 1, none⟩ = some (.int .i64 x103001_2) := (blk_cell BK102.out 1).trans rfl; have hcz33_2 : wc.cell? ⟨gb102, 2, none⟩ = some (.int .i64 x103002_2) := (blk_cell BK102.out 2).trans rfl; have hcz33_3 : wc.cell? ⟨gb102, 3, none⟩ = some (.string x103003_2) := (blk_cell BK102.out 3).trans rfl; have hfz33_0 := blk_frozen BK102.out 0; have hfz33_1 := blk_frozen BK102.out 1; have hfz33_2 := blk_frozen BK102.out 2; have hfz33_3 := blk_frozen BK102.out 3))
          refine bodyPost_ret (results_ctt rfl _ _ gb102 24 #[.int .i64 a0_0, .int .i64 t111, .int .i64 a0_2, .string x102003_2] (0, 0) _ rfl (by (with_reducible repeat (first | refine blk_drewN ?_ _ | refine blk_drew ?_ | refine blk_alloc ?_ _)); refine blk_put (cs := #[.int .i64 a0_0, .int .i64 t111, .int .i64 a0_2, .string x103003_2]) ?_ 3 _ rfl; (with_reducible repeat (first | refine blk_drewN ?_ _ | refine blk_drew ?_ | refine blk_alloc ?_ _)); refine blk_put (cs := #[.int .i64 a0_0, .int .i64 t111, .int .i64 x103002_2, .string x103003_2]) ?_ 2 _ rfl; (with_reducible repeat (first | refine blk_drewN ?_ _ | refine blk_drew ?_ | refine blk_alloc ?_ _)); refine blk_put (cs := #[.int .i64 a0_0, .int .i64 x103001_2, .int .i64 x103002_2, .string x103003_2]) ?_ 1 _ rfl; (with_reducible repeat (first | refine blk_drewN ?_ _ | refine blk_drew ?_ | refine blk_alloc ?_ _)); refine blk_put (cs := #[.int .i64 x103000_2, .int .i64 x103001_2, .int .i64 x103002_2, .string x103003_2]) ?_ 0 _ rfl; (with_reducible repeat (first | refine blk_drewN ?_ _ | refine blk_drew ?_ | refine blk_alloc ?_ _)); refine blk_far ?_ NB102_101.out _; (with_reducible repeat (first | refine blk_drewN ?_ _ | refine blk_drew ?_ | refine blk_alloc ?_ _)); exact BK102.out) Try.underlying24 rfl (by kernel_rfl)) rfl ?_
          exact ⟨by first | rfl | (simp [errW_none, errW_some] <;> rfl) | (simp [*, errW_none, errW_some] <;> rfl), by repeat (first | (with_reducible first | exact HB.out | apply below_alloc | apply pw_below_drewN | apply below_drew1 | refine below_set ?_ GE101.out | refine below_set ?_ GE102.out) | exact HB.out)⟩
        · rw [if_neg c25] at H
          have c25b0 : (a0_0 == 1) = false := beq_eq_false_iff_ne.mpr c25
          have c25b1 : (a0_0 != 1) = true := bne_iff_ne.mpr c25
          by_cases c34 : a0_0 = 2
          · rw [if_pos c34] at H
            have c34b0 : (a0_0 == 2) = true := beq_iff_eq.mpr c34
            have c34b1 : (a0_0 != 2) = false := bne_eq_false_iff_eq.mpr c34
            clear c34
            replace H := Option.bind_eq_some_iff.mp H
            obtain ⟨t112, A350, H⟩ := H
            replace H : (some (a0_0, Go.bits .xor .i64 t112 (-9223372036854775808), a0_2, x102003_2, x7_2, true)) = some (r1, r2, r3, r4, r5, r6) := H
            have A35 := Aside0.mk A350
            clear A350
            simp only [Option.some.injEq, Prod.mk.injEq] at H
            obtain ⟨rfl, rfl, rfl, rfl, rfl, rfl⟩ := H
            go_wp2_with (first | ((with_reducible refine gate_callee (f := 44) rfl ?_); refine goesL_ (some 38) rfl rfl Try.func44 (by kernel_rfl) rfl #[.string a1, .int .i64 x7_2] rfl (by (try simp only [List.map_toArray, List.map_cons, List.map_nil]); first | done | rfl | (simp only [List.length_drop, List.length_take]; rfl)) ?_; (with_reducible refine (key_front.calls a1 x7_2 t109 true _ A23.out).mono ?_); rintro e w' ⟨rfl, ⟨nd, rfl⟩⟩; refine ⟨_, rfl, ?_⟩; (try (rw [drewN_self wc]; generalize hq_ : World.drewN wc _ = wc; have n0_ : Aside0 (wc.heap[gb101]? = some (.cells #[.int .i64 a0_0, .int .i64 a0_1, .int .i64 a0_2, .string x102003_2] 24 (0, 0))) := ⟨by rw [← hq_]; exact (by (with_reducible repeat (first | refine blk_drewN ?_ _ | refine blk_drew ?_ | refine blk_alloc ?_ _)); exact BK101.out)⟩; have n1_ : Aside0 (wc.heap[gb102]? = some (.cells #[.int .i64 x103000_2, .int .i64 x103001_2, .int .i64 x103002_2, .string x103003_2] 24 (0, 0))) := ⟨by rw [← hq_]; exact (by (with_reducible repeat (first | refine blk_drewN ?_ _ | refine blk_drew ?_ | refine blk_alloc ?_ _)); exact BK102.out)⟩; have n2_ : Aside0 (Below w.heap.size w wc) := ⟨by rw [← hq_]; exact (by repeat (first | (with_reducible first | exact HB.out | apply below_alloc | apply pw_below_drewN | apply below_drew1 | refine below_set ?_ GE101.out | refine below_set ?_ GE102.out) | exact HB.out))⟩; clear BK101 BK102 HB hq_; have BK101 := n0_; have BK102 := n1_; have HB := n2_; clear n0_ n1_ n2_)); (try have hcu36_0 : wc.cell? ⟨gb101, 0, none⟩ = some (.int .i64 a0_0) := (blk_cell BK101.out 0).trans rfl); (try have hcu36_1 : wc.cell? ⟨gb101, 1, none⟩ = some (.int .i64 a0_1) := (blk_cell BK101.out 1).trans rfl); (try have hcu36_2 : wc.cell? ⟨gb101, 2, none⟩ = some (.int .i64 a0_2) := (blk_cell BK101.out 2).trans rfl); (try have hcu36_3 : wc.cell? ⟨gb101, 3, none⟩ = some (.string x102003_2) := (blk_cell BK101.out 3).trans rfl); (try have hfu36_0 := blk_frozen BK101.out 0); (try have hfu36_1 := blk_frozen BK101.out 1); (try have hfu36_2 := blk_frozen BK101.out 2); (try have hfu36_3 := blk_frozen BK101.out 3); (try have hcu37_0 : wc.cell? ⟨gb102, 0, none⟩ = some (.int .i64 x103000_2) := (blk_cell BK102.out 0).trans rfl); (try have hcu37_1 : wc.cell? ⟨gb102, 1, none⟩ = some (.int .i64 x103001_2) := (blk_cell BK102.out 1).trans rfl); (try have hcu37_2 : wc.cell? ⟨gb102, 2, none⟩ = some (.int .i64 x103002_2) := (blk_cell BK102.out 2).trans rfl); (try have hcu37_3 : wc.cell? ⟨gb102, 3, none⟩ = some (.string x103003_2) := (blk_cell BK102.out 3).trans rfl); (try have hfu37_0 := blk_frozen BK102.out 0); (try have hfu37_1 := blk_frozen BK102.out 1); (try have hfu37_2 := blk_frozen BK102.out 2); (try have hfu37_3 := blk_frozen BK102.out 3); have hnb38 := NB101_102.out; have hnc38 := NB102_101.out; have hcz39_0 : wc.cell? ⟨gb101, 0, none⟩ = some (.int .i64 a0_0) := (blk_cell BK101.out 0).trans rfl; have hcz39_1 : wc.cell? ⟨gb101, 1, none⟩ = some (.int .i64 a0_1) := (blk_cell BK101.out 1).trans rfl; have hcz39_2 : wc.cell? ⟨gb101, 2, none⟩ = some (.int .i64 a0_2) := (blk_cell BK101.out 2).trans rfl; have hcz39_3 : wc.cell? ⟨gb101, 3, none⟩ = some (.string x102003_2) := (blk_cell BK101.out 3).trans rfl; have hfz39_0 := blk_frozen BK101.out 0; have hfz39_1 := blk_frozen BK101.out 1; have hfz39_2 := blk_frozen BK101.out 2; have hfz39_3 := blk_frozen BK101.out 3) | ((with_reducible refine gate_callee (f := 45) rfl ?_); refine goesL_ (some 57) rfl rfl Try.func45 (by kernel_rfl) rfl #[.string t109] rfl (by (try simp only [List.map_toArray, List.map_cons, List.map_nil]); first | done | rfl | (simp only [List.length_drop, List.length_take]; rfl)) ?_; (with_reducible refine (key_unsigned.calls kj2 t109 t112 _ A35.out).mono ?_); rintro e w' ⟨rfl, ⟨nd, rfl⟩⟩; refine ⟨_, rfl, ?_⟩; (try (rw [drewN_self wc]; generalize hq_ : World.drewN wc _ = wc; have n0_ : Aside0 (wc.heap[gb101]? = some (.cells #[.int .i64 a0_0, .int .i64 a0_1, .int .i64 a0_2, .string x102003_2] 24 (0, 0))) := ⟨by rw [← hq_]; exact (by (with_reducible repeat (first | refine blk_drewN ?_ _ | refine blk_drew ?_ | refine blk_alloc ?_ _)); exact BK101.out)⟩; have n1_ : Aside0 (wc.heap[gb102]? = some (.cells #[.int .i64 x103000_2, .int .i64 x103001_2, .int .i64 x103002_2, .string x103003_2] 24 (0, 0))) := ⟨by rw [← hq_]; exact (by (with_reducible repeat (first | refine blk_drewN ?_ _ | refine blk_drew ?_ | refine blk_alloc ?_ _)); exact BK102.out)⟩; have n2_ : Aside0 (Below w.heap.size w wc) := ⟨by rw [← hq_]; exact (by repeat (first | (with_reducible first | exact HB.out | apply below_alloc | apply pw_below_drewN | apply below_drew1 | refine below_set ?_ GE101.out | refine below_set ?_ GE102.out) | exact HB.out))⟩; clear BK101 BK102 HB hq_; have BK101 := n0_; have BK102 := n1_; have HB := n2_; clear n0_ n1_ n2_)); (try have hcu40_0 : wc.cell? ⟨gb101, 0, none⟩ = some (.int .i64 a0_0) := (blk_cell BK101.out 0).trans rfl); (try have hcu40_1 : wc.cell? ⟨gb101, 1, none⟩ = some (.int .i64 a0_1) := (blk_cell BK101.out 1).trans rfl); (try have hcu40_2 : wc.cell? ⟨gb101, 2, none⟩ = some (.int .i64 a0_2) := (blk_cell BK101.out 2).trans rfl); (try have hcu40_3 : wc.cell? ⟨gb101, 3, none⟩ = some (.string x102003_2) := (blk_cell BK101.out 3).trans rfl); (try have hfu40_0 := blk_frozen BK101.out 0); (try have hfu40_1 := blk_frozen BK101.out 1); (try have hfu40_2 := blk_frozen BK101.out 2); (try have hfu40_3 := blk_frozen BK101.out 3); (try have hcu41_0 : wc.cell? ⟨gb102, 0, none⟩ = some (.int .i64 x103000_2) := (blk_cell BK102.out 0).trans rfl); (try have hcu41_1 : wc.cell? ⟨gb102, 1, none⟩ = some (.int .i64 x103001_2) := (blk_cell BK102.out 1).trans rfl); (try have hcu41_2 : wc.cell? ⟨gb102, 2, none⟩ = some (.int .i64 x103002_2) := (blk_cell BK102.out 2).trans rfl); (try have hcu41_3 : wc.cell? ⟨gb102, 3, none⟩ = some (.string x103003_2) := (blk_cell BK102.out 3).trans rfl); (try have hfu41_0 := blk_frozen BK102.out 0); (try have hfu41_1 := blk_frozen BK102.out 1); (try have hfu41_2 := blk_frozen BK102.out 2); (try have hfu41_3 := blk_frozen BK102.out 3); have hcz42_0 : wc.cell? ⟨gb102, 0, none⟩ = some (.int .i64 x103000_2) := (blk_cell BK102.out 0).trans rfl; have hcz42_1 : wc.cell? ⟨gb102, 1, none⟩ = some (.int .i64 x103001_2) := (blk_cell BK102.out 1).trans rfl; have hcz42_2 : wc.cell? ⟨gb102, 2, none⟩ = some (.int .i64 x103002_2) := (blk_cell BK102.out 2).trans rfl; have hcz42_3 : wc.cell? ⟨gb102, 3, none⟩ = some (.string x103003_2) := (blk_cell BK102.out 3).trans rfl; have hfz42_0 := blk_frozen BK102.out 0; have hfz42_1 := blk_frozen BK102.out 1; have hfz42_2 := blk_frozen BK102.out 2; have hfz42_3 := blk_frozen BK102.out 3))
            refine bodyPost_ret (results_ctt rfl _ _ gb102 24 #[.int .i64 a0_0, .int .i64 (Go.bits .xor .i64 t112 (-9223372036854775808)), .int .i64 a0_2, .string x102003_2] (0, 0) _ rfl (by (with_reducible repeat (first | refine blk_drewN ?_ _ | refine blk_drew ?_ | refine blk_alloc ?_ _)); refine blk_put (cs := #[.int .i64 a0_0, .int .i64 (Go.bits .xor .i64 t112 (-9223372036854775808)), .int .i64 a0_2, .string x103003_2]) ?_ 3 _ rfl; (with_reducible repeat (first | refine blk_drewN ?_ _ | refine blk_drew ?_ | refine blk_alloc ?_ _)); refine blk_put (cs := #[.int .i64 a0_0, .int .i64 (Go.bits .xor .i64 t112 (-9223372036854775808)), .int .i64 x103002_2, .string x103003_2]) ?_ 2 _ rfl; (with_reducible repeat (first | refine blk_drewN ?_ _ | refine blk_drew ?_ | refine blk_alloc ?_ _)); refine blk_put (cs := #[.int .i64 a0_0, .int .i64 x103001_2, .int .i64 x103002_2, .string x103003_2]) ?_ 1 _ rfl; (with_reducible repeat (first | refine blk_drewN ?_ _ | refine blk_drew ?_ | refine blk_alloc ?_ _)); refine blk_put (cs := #[.int .i64 x103000_2, .int .i64 x103001_2, .int .i64 x103002_2, .string x103003_2]) ?_ 0 _ rfl; (with_reducible repeat (first | refine blk_drewN ?_ _ | refine blk_drew ?_ | refine blk_alloc ?_ _)); refine blk_far ?_ NB102_101.out _; (with_reducible repeat (first | refine blk_drewN ?_ _ | refine blk_drew ?_ | refine blk_alloc ?_ _)); exact BK102.out) Try.underlying24 rfl (by kernel_rfl)) rfl ?_
            exact ⟨by first | rfl | (simp [errW_none, errW_some] <;> rfl) | (simp [*, errW_none, errW_some] <;> rfl), by repeat (first | (with_reducible first | exact HB.out | apply below_alloc | apply pw_below_drewN | apply below_drew1 | refine below_set ?_ GE101.out | refine below_set ?_ GE102.out) | exact HB.out)⟩
          · rw [if_neg c34] at H
            have c34b0 : (a0_0 == 2) = false := beq_eq_false_iff_ne.mpr c34
            have c34b1 : (a0_0 != 2) = true := bne_iff_ne.mpr c34
            by_cases c43 : a0_0 = 3
            · rw [if_pos c43] at H
              have c43b0 : (a0_0 == 3) = true := beq_iff_eq.mpr c43
              have c43b1 : (a0_0 != 3) = false := bne_eq_false_iff_eq.mpr c43
              clear c43
              by_cases c44 : 0 ≤ 8
              · rw [if_pos c44] at H
                have c44b0 := eq_true c44
                have c44b1 : decide (0 ≤ 8) = true := decide_eq_true c44
                clear c44
                by_cases c45 : 8 ≤ (t109.size : Int)
                · rw [if_pos c45] at H
                  have c45b0 := eq_true c45
                  have c45b1 : decide (8 ≤ (t109.size : Int)) = true := decide_eq_true c45
                  clear c45
                  replace H := Option.bind_eq_some_iff.mp H
                  obtain ⟨t113, A460, H⟩ := H
                  replace H : ((key_unsigned.f kj2 (t109.extract 8 t109.size)).bind fun t114 => ((key_decimal.f kj2 (Go.bits .xor .i64 t113 (-9223372036854775808)) t114 x7_2).bind fun bt115 => (some (bt115.1, bt115.2.1, bt115.2.2.1, bt115.2.2.2.1, bt115.2.2.2.2.1, bt115.2.2.2.2.2)))) = some (r1, r2, r3, r4, r5, r6) := H
                  have A46 := Aside0.mk A460
                  clear A460
                  have c47b0 := eq_true (of_decide_eq_true (by first | (with_reducible assumption) | assumption) : 8 ≤ (t109.size : Int))
                  replace H := Option.bind_eq_some_iff.mp H
                  obtain ⟨t114, A480, H⟩ := H
                  replace H : ((key_decimal.f kj2 (Go.bits .xor .i64 t113 (-9223372036854775808)) t114 x7_2).bind fun bt115 => (some (bt115.1, bt115.2.1, bt115.2.2.1, bt115.2.2.2.1, bt115.2.2.2.2.1, bt115.2.2.2.2.2))) = some (r1, r2, r3, r4, r5, r6) := H
                  have A48 := Aside0.mk A480
                  clear A480
                  replace H := Option.bind_eq_some_iff.mp H
                  obtain ⟨⟨t115, t116, t117, t118, t119, t120⟩, A490, H⟩ := H
                  replace H : (some (t115, t116, t117, t118, t119, t120)) = some (r1, r2, r3, r4, r5, r6) := H
                  have A49 := Aside0.mk A490
                  clear A490
                  simp only [Option.some.injEq, Prod.mk.injEq] at H
                  obtain ⟨rfl, rfl, rfl, rfl, rfl, rfl⟩ := H
                  try go_wp2_with (first | ((with_reducible refine gate_callee (f := 44) rfl ?_); refine goesL_ (some 38) rfl rfl Try.func44 (by kernel_rfl) rfl #[.string a1, .int .i64 x7_2] rfl (by (try simp only [List.map_toArray, List.map_cons, List.map_nil]); first | done | rfl | (simp only [List.length_drop, List.length_take]; rfl)) ?_; (with_reducible refine (key_front.calls a1 x7_2 t109 true _ A23.out).mono ?_); rintro e w' ⟨rfl, ⟨nd, rfl⟩⟩; refine ⟨_, rfl, ?_⟩; (try (rw [drewN_self wc]; generalize hq_ : World.drewN wc _ = wc; have n0_ : Aside0 (wc.heap[gb101]? = some (.cells #[.int .i64 a0_0, .int .i64 a0_1, .int .i64 a0_2, .string x102003_2] 24 (0, 0))) := ⟨by rw [← hq_]; exact (by (with_reducible repeat (first | refine blk_drewN ?_ _ | refine blk_drew ?_ | refine blk_alloc ?_ _)); exact BK101.out)⟩; have n1_ : Aside0 (wc.heap[gb102]? = some (.cells #[.int .i64 x103000_2, .int .i64 x103001_2, .int .i64 x103002_2, .string x103003_2] 24 (0, 0))) := ⟨by rw [← hq_]; exact (by (with_reducible repeat (first | refine blk_drewN ?_ _ | refine blk_drew ?_ | refine blk_alloc ?_ _)); exact BK102.out)⟩; have n2_ : Aside0 (Below w.heap.size w wc) := ⟨by rw [← hq_]; exact (by repeat (first | (with_reducible first | exact HB.out | apply below_alloc | apply pw_below_drewN | apply below_drew1 | refine below_set ?_ GE101.out | refine below_set ?_ GE102.out) | exact HB.out))⟩; clear BK101 BK102 HB hq_; have BK101 := n0_; have BK102 := n1_; have HB := n2_; clear n0_ n1_ n2_)); (try have hcu50_0 : wc.cell? ⟨gb101, 0, none⟩ = some (.int .i64 a0_0) := (blk_cell BK101.out 0).trans rfl); (try have hcu50_1 : wc.cell? ⟨gb101, 1, none⟩ = some (.int .i64 a0_1) := (blk_cell BK101.out 1).trans rfl); (try have hcu50_2 : wc.cell? ⟨gb101, 2, none⟩ = some (.int .i64 a0_2) := (blk_cell BK101.out 2).trans rfl); (try have hcu50_3 : wc.cell? ⟨gb101, 3, none⟩ = some (.string x102003_2) := (blk_cell BK101.out 3).trans rfl); (try have hfu50_0 := blk_frozen BK101.out 0); (try have hfu50_1 := blk_frozen BK101.out 1); (try have hfu50_2 := blk_frozen BK101.out 2); (try have hfu50_3 := blk_frozen BK101.out 3); (try have hcu51_0 : wc.cell? ⟨gb102, 0, none⟩ = some (.int .i64 x103000_2) := (blk_cell BK102.out 0).trans rfl); (try have hcu51_1 : wc.cell? ⟨gb102, 1, none⟩ = some (.int .i64 x103001_2) := (blk_cell BK102.out 1).trans rfl); (try have hcu51_2 : wc.cell? ⟨gb102, 2, none⟩ = some (.int .i64 x103002_2) := (blk_cell BK102.out 2).trans rfl); (try have hcu51_3 : wc.cell? ⟨gb102, 3, none⟩ = some (.string x103003_2) := (blk_cell BK102.out 3).trans rfl); (try have hfu51_0 := blk_frozen BK102.out 0); (try have hfu51_1 := blk_frozen BK102.out 1); (try have hfu51_2 := blk_frozen BK102.out 2); (try have hfu51_3 := blk_frozen BK102.out 3); have hnb52 := NB101_102.out; have hnc52 := NB102_101.out; have hcz53_0 : wc.cell? ⟨gb101, 0, none⟩ = some (.int .i64 a0_0) := (blk_cell BK101.out 0).trans rfl; have hcz53_1 : wc.cell? ⟨gb101, 1, none⟩ = some (.int .i64 a0_1) := (blk_cell BK101.out 1).trans rfl; have hcz53_2 : wc.cell? ⟨gb101, 2, none⟩ = some (.int .i64 a0_2) := (blk_cell BK101.out 2).trans rfl; have hcz53_3 : wc.cell? ⟨gb101, 3, none⟩ = some (.string x102003_2) := (blk_cell BK101.out 3).trans rfl; have hfz53_0 := blk_frozen BK101.out 0; have hfz53_1 := blk_frozen BK101.out 1; have hfz53_2 := blk_frozen BK101.out 2; have hfz53_3 := blk_frozen BK101.out 3))
                  have n0_ := Aside0.mk (blk_drew BK101.out)
                  have n1_ := Aside0.mk (blk_drew BK102.out)
                  have n2_ := Aside0.mk (below_drew1 HB.out)
                  clear BK101
                  clear BK102
                  clear HB
                  have BK101 := n0_
                  have BK102 := n1_
                  have HB := n2_
                  clear n0_ n1_ n2_
                  refine start_ (n := 15) (S := fun w' => True) (ds := []) #[false, false, false, false, false, false, false, false, false, false, false, false, false, false, false] (by kernel_rfl) rfl rfl trivial (fun hHeld => ?_); refine with_tabW key_read.tab22 key_read.bits22 (fun HT_ HW_ => ?_)
                  generalize wc.drew = w54 at BK101 BK102 HB hHeld ⊢
                  refine pure_ (i := 0) (N := some 64) (v := ?_) (a' := ?_) #[true, false, false, false, false, false, false, false, false, false, false, false, false, false, false] rfl rfl (any_of HT_.out (by kernel_rfl)) (fun _ _ _ h => h) (Or.inl ⟨by rfl, ?_⟩) ?_ ?_
                  rotate_left
                  · intro w'
                    go_simp
                    with_reducible rfl
                  rotate_left
                  · simp only [Act.put, List.setIfInBounds_toArray, List.set_cons_zero, List.set_cons_succ, i64_w, i32_w]
                    rfl
                  refine pure_ (i := 1) (N := some 65) (v := ?_) (a' := ?_) #[true, true, false, false, false, false, false, false, false, false, false, false, false, false, false] rfl rfl (any_of HT_.out (by kernel_rfl)) (fun _ _ _ h => h) (Or.inl ⟨by rfl, ?_⟩) ?_ ?_
                  rotate_left
                  · intro w'
                    go_simp
                    with_reducible rfl
                  rotate_left
                  · simp only [Act.put, List.setIfInBounds_toArray, List.set_cons_zero, List.set_cons_succ, i64_w, i32_w]
                    rfl
                  refine pure_ (i := 4) (N := some 68) (v := ?_) (a' := ?_) #[true, true, false, false, true, false, false, false, false, false, false, false, false, false, false] rfl rfl (any_of HT_.out (by kernel_rfl)) (fun _ _ _ h => h) (Or.inl ⟨by rfl, ?_⟩) ?_ ?_
                  rotate_left
                  · intro w'
                    go_simp
                    with_reducible rfl
                  rotate_left
                  · simp only [Act.put, List.setIfInBounds_toArray, List.set_cons_zero, List.set_cons_succ, i64_w, i32_w]
                    rfl
                  refine pure_ (i := 5) (N := some 69) (v := ?_) (a' := ?_) #[true, true, false, false, true, true, false, false, false, false, false, false, false, false, false] rfl rfl (any_of HT_.out (by kernel_rfl)) (fun _ _ _ h => h) (Or.inl ⟨by rfl, ?_⟩) ?_ ?_
                  rotate_left
                  · intro w'
                    go_simp
                    with_reducible rfl
                  rotate_left
                  · simp only [Act.put, List.setIfInBounds_toArray, List.set_cons_zero, List.set_cons_succ, i64_w, i32_w]
                    rfl
                  refine pure_ (i := 7) (N := some 71) (v := ?_) (a' := ?_) #[true, true, false, false, true, true, false, true, false, false, false, false, false, false, false] rfl rfl (any_of HT_.out (by kernel_rfl)) (fun _ _ _ h => h) (Or.inl ⟨by rfl, ?_⟩) ?_ ?_
                  rotate_left
                  · intro w'
                    go_simp
                    with_reducible rfl
                  rotate_left
                  · simp only [Act.put, List.setIfInBounds_toArray, List.set_cons_zero, List.set_cons_succ, i64_w, i32_w]
                    rfl
                  refine one_ (i := 2) (N := some 66) #[true, true, true, false, true, true, false, true, false, false, false, false, false, false, false] rfl rfl (one_of HT_.out (by kernel_rfl)) (by decide) (fun K hK => ?_)
                  refine goes_ Try.func45 (by kernel_rfl) rfl #[.string (t109.extract 0 8)] (by rfl) rfl rfl (by (try simp only [List.map_toArray, List.map_cons, List.map_nil]); first | done | rfl | (simp only [List.length_drop, List.length_take]; rfl)) ?_
                  with_reducible refine (key_unsigned.calls kj2 (t109.extract 0 8) t113 _ A46.out).mono ?_
                  rintro e w' ⟨rfl, ⟨nd, rfl⟩⟩
                  refine ⟨_, rfl, ?_⟩
                  refine hK.out _ _ trivial (fun hHeld => ?_)
                  clear hK K
                  refine norm_ (a' := ?_) ?_ ?_
                  rotate_left
                  · show Act.put _ (some 66) _ = _
                    simp only [Act.put, List.setIfInBounds_toArray, List.set_cons_zero, List.set_cons_succ, i64_w, i32_w]
                    rfl
                  refine pure_ (i := 3) (N := some 67) (v := ?_) (a' := ?_) #[true, true, true, true, true, true, false, true, false, false, false, false, false, false, false] rfl rfl (any_of HT_.out (by kernel_rfl)) (fun _ _ _ h => h) (Or.inl ⟨by rfl, ?_⟩) ?_ ?_
                  rotate_left
                  · intro w'
                    go_simp
                    with_reducible rfl
                  rotate_left
                  · simp only [Act.put, List.setIfInBounds_toArray, List.set_cons_zero, List.set_cons_succ, i64_w, i32_w]
                    rfl
                  refine one_ (i := 6) (N := some 70) #[true, true, true, true, true, true, true, true, false, false, false, false, false, false, false] rfl rfl (one_of HT_.out (by kernel_rfl)) (by decide) (fun K hK => ?_)
                  refine goes_ Try.func45 (by kernel_rfl) rfl #[.string (t109.extract 8 t109.size)] (by rfl) rfl rfl (by (try simp only [List.map_toArray, List.map_cons, List.map_nil]); first | done | rfl | (simp only [List.length_drop, List.length_take]; rfl)) ?_
                  with_reducible refine (key_unsigned.calls kj2 (t109.extract 8 t109.size) t114 _ A48.out).mono ?_
                  rintro e w' ⟨rfl, ⟨nd, rfl⟩⟩
                  refine ⟨_, rfl, ?_⟩
                  refine hK.out _ _ trivial (fun hHeld => ?_)
                  clear hK K
                  refine norm_ (a' := ?_) ?_ ?_
                  rotate_left
                  · show Act.put _ (some 70) _ = _
                    simp only [Act.put, List.setIfInBounds_toArray, List.set_cons_zero, List.set_cons_succ, i64_w, i32_w]
                    rfl
                  refine one_ (i := 8) (N := some 72) #[true, true, true, true, true, true, true, true, true, false, false, false, false, false, false] rfl rfl (one_of HT_.out (by kernel_rfl)) (by decide) (fun K hK => ?_)
                  refine goes_ Try.func46 (by kernel_rfl) rfl #[.int .i64 (Go.bits .xor .i64 t113 (-9223372036854775808)), .int .i64 t114, .int .i64 x7_2] (by rfl) rfl rfl (by (try simp only [List.map_toArray, List.map_cons, List.map_nil]); first | done | rfl | (simp only [List.length_drop, List.length_take]; rfl)) ?_
                  with_reducible refine (key_decimal.calls kj2 (Go.bits .xor .i64 t113 (-9223372036854775808)) t114 x7_2 t115 t116 t117 t118 t119 t120 _ A49.out).mono ?_
                  rintro e w55 ⟨rfl, hb⟩
                  refine ⟨_, rfl, ?_⟩
                  have n0_ := Aside0.mk (blk_below (g := gb101) (o := .cells #[.int .i64 a0_0, .int .i64 a0_1, .int .i64 a0_2, .string x102003_2] 24 (0, 0)) (by (with_reducible repeat (first | refine blk_drewN ?_ _ | refine blk_drew ?_ | refine blk_alloc ?_ _)); exact BK101.out) hb)
                  have n1_ := Aside0.mk (blk_below (g := gb102) (o := .cells #[.int .i64 x103000_2, .int .i64 x103001_2, .int .i64 x103002_2, .string x103003_2] 24 (0, 0)) (by (with_reducible repeat (first | refine blk_drewN ?_ _ | refine blk_drew ?_ | refine blk_alloc ?_ _)); exact BK102.out) hb)
                  have n2_ := Aside0.mk (below_step (by repeat (first | (with_reducible first | exact HB.out | apply below_alloc | apply pw_below_drewN | apply below_drew1 | refine below_set ?_ GE101.out | refine below_set ?_ GE102.out) | exact HB.out)) hb)
                  clear BK101
                  clear BK102
                  clear HB
                  have BK101 := n0_
                  have BK102 := n1_
                  have HB := n2_
                  clear n0_ n1_ n2_
                  (try clear hb)
                  (try clear hb2)
                  (try clear hk)
                  (try clear hi)
                  refine hK.out _ _ trivial (fun hHeld => ?_)
                  clear hK K
                  refine norm_ (a' := ?_) ?_ ?_
                  rotate_left
                  · show Act.put _ (some 72) _ = _
                    simp only [Act.put, List.setIfInBounds_toArray, List.set_cons_zero, List.set_cons_succ, i64_w, i32_w]
                    rfl
                  refine pure_ (i := 9) (N := some 73) (v := ?_) (a' := ?_) #[true, true, true, true, true, true, true, true, true, true, false, false, false, false, false] rfl rfl (any_of HT_.out (by kernel_rfl)) (fun _ _ _ h => h) (Or.inl ⟨by rfl, ?_⟩) ?_ ?_
                  rotate_left
                  · intro w'
                    go_simp
                    with_reducible rfl
                  rotate_left
                  · simp only [Act.put, List.setIfInBounds_toArray, List.set_cons_zero, List.set_cons_succ, i64_w, i32_w]
                    rfl
                  refine pure_ (i := 10) (N := some 74) (v := ?_) (a' := ?_) #[true, true, true, true, true, true, true, true, true, true, true, false, false, false, false] rfl rfl (any_of HT_.out (by kernel_rfl)) (fun _ _ _ h => h) (Or.inl ⟨by rfl, ?_⟩) ?_ ?_
                  rotate_left
                  · intro w'
                    go_simp
                    with_reducible rfl
                  rotate_left
                  · simp only [Act.put, List.setIfInBounds_toArray, List.set_cons_zero, List.set_cons_succ, i64_w, i32_w]
                    rfl
                  refine pure_ (i := 11) (N := some 75) (v := ?_) (a' := ?_) #[true, true, true, true, true, true, true, true, true, true, true, true, false, false, false] rfl rfl (any_of HT_.out (by kernel_rfl)) (fun _ _ _ h => h) (Or.inl ⟨by rfl, ?_⟩) ?_ ?_
                  rotate_left
                  · intro w'
                    go_simp
                    with_reducible rfl
                  rotate_left
                  · simp only [Act.put, List.setIfInBounds_toArray, List.set_cons_zero, List.set_cons_succ, i64_w, i32_w]
                    rfl
                  refine one_ (i := 12) (N := none) #[true, true, true, true, true, true, true, true, true, true, true, true, true, false, false] rfl rfl (one_of HT_.out (by kernel_rfl)) (by decide) (fun K hK => ?_)
                  have hs56 : w55.cell? ⟨gb102, 0, none⟩ = some (.int .i64 x103000_2) := (blk_cell BK102.out 0).trans rfl
                  have hfs56 := blk_frozen BK102.out 0
                  have hns56_0 := NB101_102.out
                  have hms56_0 := NB102_101.out
                  have hs57 : w55.cell? ⟨gb102, 1, none⟩ = some (.int .i64 x103001_2) := (blk_cell BK102.out 1).trans rfl
                  have hfs57 := blk_frozen BK102.out 1
                  have hns57_0 := NB101_102.out
                  have hms57_0 := NB102_101.out
                  have hs58 : w55.cell? ⟨gb102, 2, none⟩ = some (.int .i64 x103002_2) := (blk_cell BK102.out 2).trans rfl
                  have hfs58 := blk_frozen BK102.out 2
                  have hns58_0 := NB101_102.out
                  have hms58_0 := NB102_101.out
                  have hs59 : w55.cell? ⟨gb102, 3, none⟩ = some (.string x103003_2) := (blk_cell BK102.out 3).trans rfl
                  have hfs59 := blk_frozen BK102.out 3
                  have hns59_0 := NB101_102.out
                  have hms59_0 := NB102_101.out
                  refine skip_ (w1 := ?_) (by rfl) rfl ?_ ?_
                  rotate_left
                  · go_simp
                    rfl
                  refine hK.out _ _ trivial (fun hHeld => ?_)
                  clear hK K
                  refine pure_ (i := 13) (N := some 5) (v := ?_) (a' := ?_) #[true, true, true, true, true, true, true, true, true, true, true, true, true, true, false] rfl rfl (any_of HT_.out (by kernel_rfl)) (fun _ _ _ h => h) (Or.inl ⟨by rfl, ?_⟩) ?_ ?_
                  rotate_left
                  · intro w'
                    go_simp
                    with_reducible rfl
                  rotate_left
                  · simp only [Act.put, List.setIfInBounds_toArray, List.set_cons_zero, List.set_cons_succ, i64_w, i32_w]
                    rfl
                  refine pure_ (i := 14) (N := some 6) (v := ?_) (a' := ?_) #[true, true, true, true, true, true, true, true, true, true, true, true, true, true, true] rfl rfl (any_of HT_.out (by kernel_rfl)) (fun _ _ _ h => h) (Or.inl ⟨by rfl, ?_⟩) ?_ ?_
                  rotate_left
                  · intro w'
                    go_simp
                    with_reducible rfl
                  rotate_left
                  · simp only [Act.put, List.setIfInBounds_toArray, List.set_cons_zero, List.set_cons_succ, i64_w, i32_w]
                    rfl
                  refine done_ (done_of HT_.out (by kernel_rfl)) ?_
                  try go_wp2
                  refine bodyPost_ret (results_ctt rfl _ _ gb102 24 #[.int .i64 t115, .int .i64 t116, .int .i64 t117, .string t118] (0, 0) _ rfl (by (with_reducible repeat (first | refine blk_drewN ?_ _ | refine blk_drew ?_ | refine blk_alloc ?_ _)); refine blk_put (cs := #[.int .i64 t115, .int .i64 t116, .int .i64 t117, .string x103003_2]) ?_ 3 _ rfl; (with_reducible repeat (first | refine blk_drewN ?_ _ | refine blk_drew ?_ | refine blk_alloc ?_ _)); refine blk_put (cs := #[.int .i64 t115, .int .i64 t116, .int .i64 x103002_2, .string x103003_2]) ?_ 2 _ rfl; (with_reducible repeat (first | refine blk_drewN ?_ _ | refine blk_drew ?_ | refine blk_alloc ?_ _)); refine blk_put (cs := #[.int .i64 t115, .int .i64 x103001_2, .int .i64 x103002_2, .string x103003_2]) ?_ 1 _ rfl; (with_reducible repeat (first | refine blk_drewN ?_ _ | refine blk_drew ?_ | refine blk_alloc ?_ _)); refine blk_put (cs := #[.int .i64 x103000_2, .int .i64 x103001_2, .int .i64 x103002_2, .string x103003_2]) ?_ 0 _ rfl; (with_reducible repeat (first | refine blk_drewN ?_ _ | refine blk_drew ?_ | refine blk_alloc ?_ _)); exact BK102.out) Try.underlying24 rfl (by kernel_rfl)) rfl ?_
                  exact ⟨by first | rfl | (simp [errW_none, errW_some] <;> rfl) | (simp [*, errW_none, errW_some] <;> rfl), by repeat (first | (with_reducible first | exact HB.out | apply below_alloc | apply pw_below_drewN | apply below_drew1 | refine below_set ?_ GE101.out | refine below_set ?_ GE102.out) | exact HB.out)⟩
                · rw [if_neg c45] at H
                  exact absurd H (by simp)
              · rw [if_neg c44] at H
                exact absurd H (by simp)
            · rw [if_neg c43] at H
              have c43b0 : (a0_0 == 3) = false := beq_eq_false_iff_ne.mpr c43
              have c43b1 : (a0_0 != 3) = true := bne_iff_ne.mpr c43
              simp only [Option.some.injEq, Prod.mk.injEq] at H
              obtain ⟨rfl, rfl, rfl, rfl, rfl, rfl⟩ := H
              go_wp2_with (first | ((with_reducible refine gate_callee (f := 44) rfl ?_); refine goesL_ (some 38) rfl rfl Try.func44 (by kernel_rfl) rfl #[.string a1, .int .i64 x7_2] rfl (by (try simp only [List.map_toArray, List.map_cons, List.map_nil]); first | done | rfl | (simp only [List.length_drop, List.length_take]; rfl)) ?_; (with_reducible refine (key_front.calls a1 x7_2 t109 true _ A23.out).mono ?_); rintro e w' ⟨rfl, ⟨nd, rfl⟩⟩; refine ⟨_, rfl, ?_⟩; (try (rw [drewN_self wc]; generalize hq_ : World.drewN wc _ = wc; have n0_ : Aside0 (wc.heap[gb101]? = some (.cells #[.int .i64 a0_0, .int .i64 a0_1, .int .i64 a0_2, .string x102003_2] 24 (0, 0))) := ⟨by rw [← hq_]; exact (by (with_reducible repeat (first | refine blk_drewN ?_ _ | refine blk_drew ?_ | refine blk_alloc ?_ _)); exact BK101.out)⟩; have n1_ : Aside0 (wc.heap[gb102]? = some (.cells #[.int .i64 x103000_2, .int .i64 x103001_2, .int .i64 x103002_2, .string x103003_2] 24 (0, 0))) := ⟨by rw [← hq_]; exact (by (with_reducible repeat (first | refine blk_drewN ?_ _ | refine blk_drew ?_ | refine blk_alloc ?_ _)); exact BK102.out)⟩; have n2_ : Aside0 (Below w.heap.size w wc) := ⟨by rw [← hq_]; exact (by repeat (first | (with_reducible first | exact HB.out | apply below_alloc | apply pw_below_drewN | apply below_drew1 | refine below_set ?_ GE101.out | refine below_set ?_ GE102.out) | exact HB.out))⟩; clear BK101 BK102 HB hq_; have BK101 := n0_; have BK102 := n1_; have HB := n2_; clear n0_ n1_ n2_)); (try have hcu60_0 : wc.cell? ⟨gb101, 0, none⟩ = some (.int .i64 a0_0) := (blk_cell BK101.out 0).trans rfl); (try have hcu60_1 : wc.cell? ⟨gb101, 1, none⟩ = some (.int .i64 a0_1) := (blk_cell BK101.out 1).trans rfl); (try have hcu60_2 : wc.cell? ⟨gb101, 2, none⟩ = some (.int .i64 a0_2) := (blk_cell BK101.out 2).trans rfl); (try have hcu60_3 : wc.cell? ⟨gb101, 3, none⟩ = some (.string x102003_2) := (blk_cell BK101.out 3).trans rfl); (try have hfu60_0 := blk_frozen BK101.out 0); (try have hfu60_1 := blk_frozen BK101.out 1); (try have hfu60_2 := blk_frozen BK101.out 2); (try have hfu60_3 := blk_frozen BK101.out 3); (try have hcu61_0 : wc.cell? ⟨gb102, 0, none⟩ = some (.int .i64 x103000_2) := (blk_cell BK102.out 0).trans rfl); (try have hcu61_1 : wc.cell? ⟨gb102, 1, none⟩ = some (.int .i64 x103001_2) := (blk_cell BK102.out 1).trans rfl); (try have hcu61_2 : wc.cell? ⟨gb102, 2, none⟩ = some (.int .i64 x103002_2) := (blk_cell BK102.out 2).trans rfl); (try have hcu61_3 : wc.cell? ⟨gb102, 3, none⟩ = some (.string x103003_2) := (blk_cell BK102.out 3).trans rfl); (try have hfu61_0 := blk_frozen BK102.out 0); (try have hfu61_1 := blk_frozen BK102.out 1); (try have hfu61_2 := blk_frozen BK102.out 2); (try have hfu61_3 := blk_frozen BK102.out 3); have hnb62 := NB101_102.out; have hnc62 := NB102_101.out; have hcz63_0 : wc.cell? ⟨gb101, 0, none⟩ = some (.int .i64 a0_0) := (blk_cell BK101.out 0).trans rfl; have hcz63_1 : wc.cell? ⟨gb101, 1, none⟩ = some (.int .i64 a0_1) := (blk_cell BK101.out 1).trans rfl; have hcz63_2 : wc.cell? ⟨gb101, 2, none⟩ = some (.int .i64 a0_2) := (blk_cell BK101.out 2).trans rfl; have hcz63_3 : wc.cell? ⟨gb101, 3, none⟩ = some (.string x102003_2) := (blk_cell BK101.out 3).trans rfl; have hfz63_0 := blk_frozen BK101.out 0; have hfz63_1 := blk_frozen BK101.out 1; have hfz63_2 := blk_frozen BK101.out 2; have hfz63_3 := blk_frozen BK101.out 3; have hcz64_0 : wc.cell? ⟨gb102, 0, none⟩ = some (.int .i64 x103000_2) := (blk_cell BK102.out 0).trans rfl; have hcz64_1 : wc.cell? ⟨gb102, 1, none⟩ = some (.int .i64 x103001_2) := (blk_cell BK102.out 1).trans rfl; have hcz64_2 : wc.cell? ⟨gb102, 2, none⟩ = some (.int .i64 x103002_2) := (blk_cell BK102.out 2).trans rfl; have hcz64_3 : wc.cell? ⟨gb102, 3, none⟩ = some (.string x103003_2) := (blk_cell BK102.out 3).trans rfl; have hfz64_0 := blk_frozen BK102.out 0; have hfz64_1 := blk_frozen BK102.out 1; have hfz64_2 := blk_frozen BK102.out 2; have hfz64_3 := blk_frozen BK102.out 3))
              refine bodyPost_ret (results_ctt rfl _ _ gb102 24 #[.int .i64 a0_0, .int .i64 a0_1, .int .i64 a0_2, .string x102003_2] (0, 0) _ rfl (by (with_reducible repeat (first | refine blk_drewN ?_ _ | refine blk_drew ?_ | refine blk_alloc ?_ _)); refine blk_put (cs := #[.int .i64 a0_0, .int .i64 a0_1, .int .i64 a0_2, .string x103003_2]) ?_ 3 _ rfl; (with_reducible repeat (first | refine blk_drewN ?_ _ | refine blk_drew ?_ | refine blk_alloc ?_ _)); refine blk_put (cs := #[.int .i64 a0_0, .int .i64 a0_1, .int .i64 x103002_2, .string x103003_2]) ?_ 2 _ rfl; (with_reducible repeat (first | refine blk_drewN ?_ _ | refine blk_drew ?_ | refine blk_alloc ?_ _)); refine blk_put (cs := #[.int .i64 a0_0, .int .i64 x103001_2, .int .i64 x103002_2, .string x103003_2]) ?_ 1 _ rfl; (with_reducible repeat (first | refine blk_drewN ?_ _ | refine blk_drew ?_ | refine blk_alloc ?_ _)); refine blk_put (cs := #[.int .i64 x103000_2, .int .i64 x103001_2, .int .i64 x103002_2, .string x103003_2]) ?_ 0 _ rfl; (with_reducible repeat (first | refine blk_drewN ?_ _ | refine blk_drew ?_ | refine blk_alloc ?_ _)); exact BK102.out) Try.underlying24 rfl (by kernel_rfl)) rfl ?_
              exact ⟨by first | rfl | (simp [errW_none, errW_some] <;> rfl) | (simp [*, errW_none, errW_some] <;> rfl), by repeat (first | (with_reducible first | exact HB.out | apply below_alloc | apply pw_below_drewN | apply below_drew1 | refine below_set ?_ GE101.out | refine below_set ?_ GE102.out) | exact HB.out)⟩
      · replace c24 := Bool.eq_false_iff.mpr c24
        subst c24
        have H1 : (some (0, 0, 0, (⟨#[]⟩ : ByteArray), 0, false)) = some (r1, r2, r3, r4, r5, r6) := by rw [if_neg (show ¬ (false = true) by decide)] at H; exact H
        clear H
        have H := H1
        clear H1
        simp only [Option.some.injEq, Prod.mk.injEq] at H
        obtain ⟨rfl, rfl, rfl, rfl, rfl, rfl⟩ := H
        go_wp2_with (first | ((with_reducible refine gate_callee (f := 44) rfl ?_); refine goesL_ (some 38) rfl rfl Try.func44 (by kernel_rfl) rfl #[.string a1, .int .i64 x7_2] rfl (by (try simp only [List.map_toArray, List.map_cons, List.map_nil]); first | done | rfl | (simp only [List.length_drop, List.length_take]; rfl)) ?_; (with_reducible refine (key_front.calls a1 x7_2 t109 false _ A23.out).mono ?_); rintro e w' ⟨rfl, ⟨nd, rfl⟩⟩; refine ⟨_, rfl, ?_⟩; (try (rw [drewN_self wc]; generalize hq_ : World.drewN wc _ = wc; have n0_ : Aside0 (wc.heap[gb101]? = some (.cells #[.int .i64 a0_0, .int .i64 a0_1, .int .i64 a0_2, .string x102003_2] 24 (0, 0))) := ⟨by rw [← hq_]; exact (by (with_reducible repeat (first | refine blk_drewN ?_ _ | refine blk_drew ?_ | refine blk_alloc ?_ _)); exact BK101.out)⟩; have n1_ : Aside0 (wc.heap[gb102]? = some (.cells #[.int .i64 x103000_2, .int .i64 x103001_2, .int .i64 x103002_2, .string x103003_2] 24 (0, 0))) := ⟨by rw [← hq_]; exact (by (with_reducible repeat (first | refine blk_drewN ?_ _ | refine blk_drew ?_ | refine blk_alloc ?_ _)); exact BK102.out)⟩; have n2_ : Aside0 (Below w.heap.size w wc) := ⟨by rw [← hq_]; exact (by repeat (first | (with_reducible first | exact HB.out | apply below_alloc | apply pw_below_drewN | apply below_drew1 | refine below_set ?_ GE101.out | refine below_set ?_ GE102.out) | exact HB.out))⟩; clear BK101 BK102 HB hq_; have BK101 := n0_; have BK102 := n1_; have HB := n2_; clear n0_ n1_ n2_)); (try have hcu65_0 : wc.cell? ⟨gb101, 0, none⟩ = some (.int .i64 a0_0) := (blk_cell BK101.out 0).trans rfl); (try have hcu65_1 : wc.cell? ⟨gb101, 1, none⟩ = some (.int .i64 a0_1) := (blk_cell BK101.out 1).trans rfl); (try have hcu65_2 : wc.cell? ⟨gb101, 2, none⟩ = some (.int .i64 a0_2) := (blk_cell BK101.out 2).trans rfl); (try have hcu65_3 : wc.cell? ⟨gb101, 3, none⟩ = some (.string x102003_2) := (blk_cell BK101.out 3).trans rfl); (try have hfu65_0 := blk_frozen BK101.out 0); (try have hfu65_1 := blk_frozen BK101.out 1); (try have hfu65_2 := blk_frozen BK101.out 2); (try have hfu65_3 := blk_frozen BK101.out 3); (try have hcu66_0 : wc.cell? ⟨gb102, 0, none⟩ = some (.int .i64 x103000_2) := (blk_cell BK102.out 0).trans rfl); (try have hcu66_1 : wc.cell? ⟨gb102, 1, none⟩ = some (.int .i64 x103001_2) := (blk_cell BK102.out 1).trans rfl); (try have hcu66_2 : wc.cell? ⟨gb102, 2, none⟩ = some (.int .i64 x103002_2) := (blk_cell BK102.out 2).trans rfl); (try have hcu66_3 : wc.cell? ⟨gb102, 3, none⟩ = some (.string x103003_2) := (blk_cell BK102.out 3).trans rfl); (try have hfu66_0 := blk_frozen BK102.out 0); (try have hfu66_1 := blk_frozen BK102.out 1); (try have hfu66_2 := blk_frozen BK102.out 2); (try have hfu66_3 := blk_frozen BK102.out 3); have hnb67 := NB102_101.out; have hnc67 := NB101_102.out; have hcz68_0 : wc.cell? ⟨gb102, 0, none⟩ = some (.int .i64 x103000_2) := (blk_cell BK102.out 0).trans rfl; have hcz68_1 : wc.cell? ⟨gb102, 1, none⟩ = some (.int .i64 x103001_2) := (blk_cell BK102.out 1).trans rfl; have hcz68_2 : wc.cell? ⟨gb102, 2, none⟩ = some (.int .i64 x103002_2) := (blk_cell BK102.out 2).trans rfl; have hcz68_3 : wc.cell? ⟨gb102, 3, none⟩ = some (.string x103003_2) := (blk_cell BK102.out 3).trans rfl; have hfz68_0 := blk_frozen BK102.out 0; have hfz68_1 := blk_frozen BK102.out 1; have hfz68_2 := blk_frozen BK102.out 2; have hfz68_3 := blk_frozen BK102.out 3))
        refine bodyPost_ret (results_ctt rfl _ _ gb102 24 #[.int .i64 0, .int .i64 0, .int .i64 0, .string (⟨#[]⟩ : ByteArray)] (0, 0) _ rfl (by (with_reducible repeat (first | refine blk_drewN ?_ _ | refine blk_drew ?_ | refine blk_alloc ?_ _)); refine blk_put (cs := #[.int .i64 0, .int .i64 0, .int .i64 0, .string x103003_2]) ?_ 3 _ rfl; (with_reducible repeat (first | refine blk_drewN ?_ _ | refine blk_drew ?_ | refine blk_alloc ?_ _)); refine blk_put (cs := #[.int .i64 0, .int .i64 0, .int .i64 x103002_2, .string x103003_2]) ?_ 2 _ rfl; (with_reducible repeat (first | refine blk_drewN ?_ _ | refine blk_drew ?_ | refine blk_alloc ?_ _)); refine blk_put (cs := #[.int .i64 0, .int .i64 x103001_2, .int .i64 x103002_2, .string x103003_2]) ?_ 1 _ rfl; (with_reducible repeat (first | refine blk_drewN ?_ _ | refine blk_drew ?_ | refine blk_alloc ?_ _)); refine blk_put (cs := #[.int .i64 x103000_2, .int .i64 x103001_2, .int .i64 x103002_2, .string x103003_2]) ?_ 0 _ rfl; (with_reducible repeat (first | refine blk_drewN ?_ _ | refine blk_drew ?_ | refine blk_alloc ?_ _)); exact BK102.out) Try.underlying24 rfl (by kernel_rfl)) rfl ?_
        exact ⟨by first | rfl | (simp [errW_none, errW_some] <;> rfl) | (simp [*, errW_none, errW_some] <;> rfl), by repeat (first | (with_reducible first | exact HB.out | apply below_alloc | apply pw_below_drewN | apply below_drew1 | refine below_set ?_ GE101.out | refine below_set ?_ GE102.out) | exact HB.out)⟩
end Go.Proofs.Ytjacflmgbmfhcaa.K
namespace Go.Proofs.Ytjacflmgbmfhcaa.K
open Go.RowKit Go.Proofs.YtjacflmgbmfhcaaW.PrintWords Go.Proofs.YtjacflmgbmfhcaaW.PrintLast Go.Proofs.YtjacflmgbmfhcaaW.PrintMore
attribute [local go_sem] max2_int min2_int max_two min_two max_three min_three max_four min_four
attribute [local go_sem high] own_gtr own_leq own_geq own_cell_set Option.map_some fld24_3
set_option linter.unusedVariables false
set_option linter.unusedSimpArgs false
def val_printable.l0 : Nat → ByteArray → Int → Option (Bool)
  | 0, _, _ => none
  | k + 1, x0, x3 => if x3 < (x0.size : Int) then (if 0 ≤ x3 then (if (bt x0 x3) < 32 then (some false) else (if (bt x0 x3) > 126 then (some false) else (val_printable.l0 k x0 (wrap64 (x3 + 1))))) else (none)) else (some true)
def val_printable.f (k : Nat) (a0 : ByteArray) : Option (Bool) := val_printable.l0 k a0 0
theorem val_printable.mono_l : ∀ k, (∀ y0 y1, LeO (val_printable.l0 k y0 y1) (val_printable.l0 (k + 1) y0 y1))
  | 0 => fun _ _ r h => by simp [val_printable.l0] at h
  | k + 1 => by
    have ih0 := val_printable.mono_l k
    · intro y0 y1
      unfold val_printable.l0
      repeat' first
      | (with_reducible exact ih0 _ _)
      | (with_reducible exact LeO.refl _)
      | (with_reducible exact LeO.none _)
      | (with_reducible refine LeO.ite ?_ ?_)
      | (with_reducible refine LeO.bind ?_ (fun _ => ?_))
      | exact ih0 _ _
      | exact LeO.none _
      | refine LeO.ite ?_ ?_
      | refine LeO.bind ?_ (fun _ => ?_)
theorem val_printable.mono : ∀ a0 k, LeO (val_printable.f k a0) (val_printable.f (k + 1) a0) := by
  intro a0 k
  have ih0 := val_printable.mono_l k
  unfold val_printable.f
  repeat' first
      | (with_reducible exact ih0 _ _)
      | (with_reducible exact LeO.refl _)
      | (with_reducible exact LeO.none _)
      | (with_reducible refine LeO.ite ?_ ?_)
      | (with_reducible refine LeO.bind ?_ (fun _ => ?_))
      | exact ih0 _ _
      | exact LeO.none _
      | refine LeO.ite ?_ ?_
      | refine LeO.bind ?_ (fun _ => ?_)
set_option maxHeartbeats 8000000 in
set_option maxRecDepth 100000 in
theorem val_printable.calls (k : Nat) (a0 : ByteArray) (r : Bool) (w : World) (h : val_printable.f k a0 = some r) :
    Calls Try.prog 47 #[.string a0] w fun e w' => e = .returned (.bool r) ∧ Drawn0 w w' := by
  have H : (val_printable.l0 k a0 0) = some r := h
  clear h
  have H' := Aside0.mk H
  clear H
  go_enter Try.func47, Try.ntmps47
  go_wp2
  go_loopg [3] k (fun kq v3 w' => ∃ (x3_1 : Int), v3 = .int .i64 x3_1 ∧ Aside0 (val_printable.l0 kq a0 x3_1 = some r) ∧ Aside0 (kq ≤ k) ∧ Drawn0 w w')
  case atStart => exact ⟨(0), (by first | rfl | (simp; done) | (simp [*]; done)), H', ⟨Nat.le_refl _⟩, by repeat (first | exact Drawn0.refl _ | apply Drawn0.step)⟩
  case round =>
    clear H'
    obtain ⟨x3_1, rfl, HA, HK1, ⟨m1, rfl⟩⟩ := hrel
    cases gk with
    | zero => exact absurd HA.out (by simp [val_printable.l0])
    | succ k1 =>
      have H := HA.out
      clear HA
      simp only [val_printable.l0] at H
      by_cases c2 : x3_1 < (a0.size : Int)
      · rw [if_pos c2] at H
        have c2b0 : decide (x3_1 < (a0.size : Int)) = true := decide_eq_true c2
        clear c2
        by_cases c3 : 0 ≤ x3_1
        · rw [if_pos c3] at H
          have c3b0 : decide (0 ≤ x3_1) = true := decide_eq_true c3
          clear c3
          by_cases c5 : (bt a0 x3_1) < 32
          · rw [if_pos c5] at H
            have c5b0 : decide ((bt a0 x3_1) < 32) = true := decide_eq_true c5
            clear c5
            obtain rfl := Option.some.inj H
            have p4 : 0 ≤ (x3_1 : Int) := of_decide_eq_true (by first | (with_reducible assumption) | assumption)
            have q4 : x3_1 < (a0.size : Int) := of_decide_eq_true (by first | (with_reducible assumption) | assumption)
            have hx4 := bt_at a0 x3_1
            replace p4 := eq_true p4
            replace q4 := eq_true q4
            go_wp2
            go_ret
            exact ⟨by first | rfl | (simp; done) | (simp [*]; done), by repeat (first | exact Drawn0.refl _ | apply Drawn0.step)⟩
          · rw [if_neg c5] at H
            have c5b0 : decide ((bt a0 x3_1) < 32) = false := decide_eq_false c5
            clear c5
            by_cases c7 : (bt a0 x3_1) > 126
            · rw [if_pos c7] at H
              have c7b0 : decide (126 < (bt a0 x3_1)) = true := decide_eq_true c7
              clear c7
              obtain rfl := Option.some.inj H
              have p4 : 0 ≤ (x3_1 : Int) := of_decide_eq_true (by first | (with_reducible assumption) | assumption)
              have q4 : x3_1 < (a0.size : Int) := of_decide_eq_true (by first | (with_reducible assumption) | assumption)
              have hx4 := bt_at a0 x3_1
              replace p4 := eq_true p4
              replace q4 := eq_true q4
              have p6 : 0 ≤ (x3_1 : Int) := of_decide_eq_true (by first | (with_reducible assumption) | assumption)
              have q6 : x3_1 < (a0.size : Int) := of_decide_eq_true (by first | (with_reducible assumption) | assumption)
              have hx6 := bt_at a0 x3_1
              replace p6 := eq_true p6
              replace q6 := eq_true q6
              go_wp2
              go_ret
              exact ⟨by first | rfl | (simp; done) | (simp [*]; done), by repeat (first | exact Drawn0.refl _ | apply Drawn0.step)⟩
            · rw [if_neg c7] at H
              have c7b0 : decide (126 < (bt a0 x3_1)) = false := decide_eq_false c7
              clear c7
              have H' := Aside0.mk H
              clear H
              have p4 : 0 ≤ (x3_1 : Int) := of_decide_eq_true (by first | (with_reducible assumption) | assumption)
              have q4 : x3_1 < (a0.size : Int) := of_decide_eq_true (by first | (with_reducible assumption) | assumption)
              have hx4 := bt_at a0 x3_1
              replace p4 := eq_true p4
              replace q4 := eq_true q4
              have p6 : 0 ≤ (x3_1 : Int) := of_decide_eq_true (by first | (with_reducible assumption) | assumption)
              have q6 : x3_1 < (a0.size : Int) := of_decide_eq_true (by first | (with_reducible assumption) | assumption)
              have hx6 := bt_at a0 x3_1
              replace p6 := eq_true p6
              replace q6 := eq_true q6
              go_wp2
              go_roundg k1
              case measure => have := HK1.out; omega
              case rel => exact ⟨(wrap64 (x3_1 + 1)), (by first | rfl | (simp; done) | (simp [*]; done)), H', ⟨by have := HK1.out; omega⟩, by repeat (first | exact Drawn0.refl _ | apply Drawn0.step)⟩
        · rw [if_neg c3] at H
          exact absurd H (by simp)
      · rw [if_neg c2] at H
        have c2b0 : decide (x3_1 < (a0.size : Int)) = false := decide_eq_false c2
        clear c2
        obtain rfl := Option.some.inj H
        go_wp2
        go_ret
        exact ⟨by first | rfl | (simp; done) | (simp [*]; done), by repeat (first | exact Drawn0.refl _ | apply Drawn0.step)⟩
end Go.Proofs.Ytjacflmgbmfhcaa.K
namespace Go.Proofs.Ytjacflmgbmfhcaa.K
open Go.RowKit Go.Proofs.YtjacflmgbmfhcaaW.PrintWords Go.Proofs.YtjacflmgbmfhcaaW.PrintLast Go.Proofs.YtjacflmgbmfhcaaW.PrintMore
attribute [local go_sem] max2_int min2_int max_two min_two max_three min_three max_four min_four
attribute [local go_sem high] own_gtr own_leq own_geq own_cell_set Option.map_some fld24_3
set_option linter.unusedVariables false
set_option linter.unusedSimpArgs false
theorem eqA24 (d : Nat) (w : World) (x0 y0 : Int) (x1 y1 : Int) (x2 y2 : Int) (x3 y3 : ByteArray) :
    (Op.equalIn (d + 2) 24 (.agg #[.int .i64 x0, .int .i64 x1, .int .i64 x2, .string x3]) (.agg #[.int .i64 y0, .int .i64 y1, .int .i64 y2, .string y3])).run Try.prog w = .ok (x0 == y0 && (x1 == y1 && (x2 == y2 && (x3.toList == y3.toList)))) w := by
  refine eqA_of Try.underlying24 (by kernel_rfl) ?_
  refine eqf_cons (by rfl) (by go_simp; rfl) (by go_simp; rfl) (by go_simp) ?_
  refine eqf_cons (by rfl) (by go_simp; rfl) (by go_simp; rfl) (by go_simp) ?_
  refine eqf_cons (by rfl) (by go_simp; rfl) (by go_simp; rfl) (by go_simp) ?_
  exact eqf_last (by rfl) (by go_simp; rfl) (by go_simp; rfl) (by go_simp)
end Go.Proofs.Ytjacflmgbmfhcaa.K
