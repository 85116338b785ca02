-- Written by drive.py and pack.py (programs of this proof's own) through the kit's printer; not trusted: Lean checks it.
import Derived.Test.YtjacflmgbmfhcaaCKeyCut1
import Derived.Test.YtjacflmgbmfhcaaCKeyCut8
import Derived.Test.YtjacflmgbmfhcaaCKeyCut7
import Derived.Test.YtjacflmgbmfhcaaCKeyCut2
import Derived.Test.YtjacflmgbmfhcaaCKeyCut6
import Derived.Test.YtjacflmgbmfhcaaCKeyCut4
import Derived.Test.YtjacflmgbmfhcaaCKeyCut3
import Derived.Test.YtjacflmgbmfhcaaCKeyCut5
import Derived.Lib.Strings
namespace Go.Proofs.Ytjacflmgbmfhcaa.K
open Go.RowKit Go.Proofs.YtjacflmgbmfhcaaW.PrintWords Go.Proofs.YtjacflmgbmfhcaaW.PrintLast Go.Proofs.YtjacflmgbmfhcaaW.PrintMore
attribute [local go_sem] max2_int min2_int max_two min_two max_three min_three max_four min_four
attribute [local go_sem high] own_gtr own_leq own_geq own_cell_set Option.map_some fld24_3
set_option linter.unusedVariables false
set_option linter.unusedSimpArgs false
def federationlaw2_within.f (a0 : Int) (a1 : Int) : Option (Int) := if a1 = 0 then (none) else (if (Int.tmod a0 a1) < 0 then (some (wrap64 ((Int.tmod a0 a1) + a1))) else (some (Int.tmod a0 a1)))
set_option maxHeartbeats 8000000 in
set_option maxRecDepth 100000 in
theorem federationlaw2_within.calls (a0 : Int) (a1 : Int) (r : Int) (w : World) (h : federationlaw2_within.f a0 a1 = some r) :
    Calls Try.prog 17 #[.int .i64 a0, .int .i64 a1] w fun e w' => e = .returned (.int .i64 r) ∧ Drawn0 w w' := by
  have H : (if a1 = 0 then (none) else (if (Int.tmod a0 a1) < 0 then (some (wrap64 ((Int.tmod a0 a1) + a1))) else (some (Int.tmod a0 a1)))) = some r := h
  clear h
  by_cases c3 : a1 = 0
  · rw [if_pos c3] at H
    exact absurd H (by simp)
  · rw [if_neg c3] at H
    have c3b0 : (a1 == 0) = false := beq_eq_false_iff_ne.mpr c3
    have c3b1 : (a1 != 0) = true := bne_iff_ne.mpr c3
    by_cases c4 : (Int.tmod a0 a1) < 0
    · rw [if_pos c4] at H
      have c4b0 : decide ((Int.tmod a0 a1) < 0) = true := decide_eq_true c4
      clear c4
      obtain rfl := Option.some.inj H
      go_enter Try.func17, Try.ntmps17
      go_wp2
      go_ret
      exact ⟨by first | rfl | (simp; done) | (simp [*]; done), by repeat (first | exact Drawn0.refl _ | apply Drawn0.step)⟩
    · rw [if_neg c4] at H
      have c4b0 : decide ((Int.tmod a0 a1) < 0) = false := decide_eq_false c4
      clear c4
      obtain rfl := Option.some.inj H
      go_enter Try.func17, Try.ntmps17
      go_wp2
      go_ret
      exact ⟨by first | rfl | (simp; done) | (simp [*]; done), by repeat (first | exact Drawn0.refl _ | apply Drawn0.step)⟩
end Go.Proofs.Ytjacflmgbmfhcaa.K
namespace Go.Proofs.Ytjacflmgbmfhcaa.K
open Go.RowKit Go.Proofs.YtjacflmgbmfhcaaW.PrintWords Go.Proofs.YtjacflmgbmfhcaaW.PrintLast Go.Proofs.YtjacflmgbmfhcaaW.PrintMore
attribute [local go_sem] max2_int min2_int max_two min_two max_three min_three max_four min_four
attribute [local go_sem high] own_gtr own_leq own_geq own_cell_set Option.map_some fld24_3
set_option linter.unusedVariables false
set_option linter.unusedSimpArgs false
mutual
def federationlaw2_Row.l0 : Nat → List Int → ByteArray → List (S24) → Int → Option ((List (S24)))
  | 0, _, _, _, _ => none
  | k + 1, x0, x1, x5, x6 => if x6 < (x0.length : Int) then (federationlaw2_Row.j1 k x0 x1 x5 x6 (decide (x6 < 10))) else (federationlaw2_Row.j1 k x0 x1 x5 x6 false)
def federationlaw2_Row.j1 : Nat → List Int → ByteArray → List (S24) → Int → Bool → Option ((List (S24)))
  | 0, _, _, _, _, _ => none
  | k + 1, x0, x1, x5, x6, x15 => if x15 = true then (if 0 ≤ x6 then (if x6 < (x0.length : Int) then ((federationlaw2_within.f (rd x0 x6) 1099511627776).bind fun t102 => ((federationlaw2_within.f t102 (wrap64 ((x1.size : Int) + 1))).bind fun t103 => (if 0 ≤ t103 then (if t103 ≤ (x1.size : Int) then ((federationlaw1_Make.f k t102 (wrap64 ((wrap64 (Int.tdiv t102 300)) - 5000)) (x1.extract 0 (t103 : Int).toNat)).bind fun bt104 => (if x5.length < 3518437208883 then (federationlaw2_Row.l0 k x0 x1 (x5 ++ [(⟨bt104.1, bt104.2.1, bt104.2.2.1, bt104.2.2.2⟩ : S24)]) (wrap64 (x6 + 1))) else (none))) else (none)) else (none)))) else (none)) else (none)) else (some x5)
end
def federationlaw2_Row.f (k : Nat) (l0 : List Int) (a1 : ByteArray) : Option ((List (S24))) := federationlaw2_Row.l0 k l0 a1 ([] : List (S24)) 0
set_option maxHeartbeats 8000000 in
set_option maxRecDepth 100000 in
theorem federationlaw2_Row.calls (k : Nat) (A0 : Option Addr) (c0 : Nat) (l0 : List Int) (a1 : ByteArray) (r : List (S24)) (w : World) (hr0 : Kd.C (Kd.int .i64) w A0 l0.length l0) (hc0 : l0.length ≤ c0) (h : federationlaw2_Row.f k l0 a1 = some r) :
    Calls Try.prog 19 #[.slice A0 l0.length c0, .string a1] w fun e w' => ∃ v0_ : Value, e = .returned (v0_) ∧ Kd.R k24 24 w' w.heap.size (fun _ => True) v0_ r ∧ Below w.heap.size w w' := by
  have HR0 := Aside0.mk hr0
  have HC0 := Aside0.mk hc0
  clear hr0 hc0
  have HB := Aside0.mk (Below.refl w.heap.size w)
  have H : (federationlaw2_Row.l0 k l0 a1 ([] : List (S24)) 0) = some r := h
  clear h
  have H' := Aside0.mk H
  clear H
  go_enter Try.func19, Try.ntmps19
  go_wp2
  go_loopg [5, 6] k (fun kq v5 v6 w' => ∃ (x5_1 : List (S24)) (x6_1 : Int), v6 = .int .i64 x6_1 ∧ Aside0 (federationlaw2_Row.l0 kq l0 a1 x5_1 x6_1 = some r) ∧ Aside0 (kq ≤ k) ∧ Aside0 (Kd.R k24 24 w' w.heap.size (fun _ => True) v5 x5_1) ∧ Aside0 (Below w.heap.size w w'))
  case atStart => exact ⟨(([] : List (S24))), (0), (by first | rfl | (simp; done) | (simp [*]; done)), H', ⟨Nat.le_refl _⟩, ⟨by first | exact Kd.R_nil _ _ _ _ _ | exact Kd.N_nil _ _ _ _ _ | exact Kd.V_nil _ _ _ _ _ | exact Kd.Q_nil _ _ _ _ _ | exact Kd.S_nil _ _ _ _ _⟩, ⟨by repeat (first | (with_reducible first | exact HB.out | apply below_alloc | apply pw_below_drewN | apply below_drew1) | exact HB.out)⟩⟩
  case round =>
    clear H'
    try clear c1
    try clear p2
    obtain ⟨x5_1, x6_1, rfl, HA, HK1, HO_5, HB⟩ := hrel
    cases gk with
    | zero => exact absurd HA.out (by simp [federationlaw2_Row.l0])
    | succ k1 =>
      have H := HA.out
      clear HA
      simp only [federationlaw2_Row.l0] at H
      have HC3 := Aside0.mk H
      clear H
      go_upto_region 3 with (fail)
      go_cut [15] (fun v15 wc => ∃ (kq : Nat) (x15_2 : Bool), v15 = .bool x15_2 ∧ Aside0 (federationlaw2_Row.j1 kq l0 a1 x5_1 x6_1 x15_2 = some r) ∧ Aside0 (kq ≤ k1) ∧ Aside0 (Kd.R k24 24 wc w.heap.size (fun _ => True) u5 x5_1) ∧ Aside0 (Below w.heap.size w wc))
      case first =>
        have H := HC3.out
        clear HC3
        by_cases c4 : x6_1 < (l0.length : Int)
        · rw [if_pos c4] at H
          have c4b0 : decide (x6_1 < (l0.length : Int)) = true := decide_eq_true c4
          clear c4
          (first | rw [c4b0] | (simp only [i64_w, i32_w]; rw [c4b0]) | skip)
          have H' := Aside0.mk H
          clear H
          go_wp2
          go_meet
          case rel => exact ⟨_, (decide (x6_1 < 10)), (by first | rfl | (simp; done) | (simp [*]; done)), H', ⟨by have := HK1.out; first | omega | exact Nat.le_refl _⟩, ⟨by (with_reducible repeat (first | apply Kd.R_alloc | apply Kd.R_drewN | apply Kd.R_drew)); exact HO_5.out⟩, ⟨by repeat (first | (with_reducible first | exact HB.out | apply below_alloc | apply pw_below_drewN | apply below_drew1) | exact HB.out)⟩⟩
        · rw [if_neg c4] at H
          have c4b0 : decide (x6_1 < (l0.length : Int)) = false := decide_eq_false c4
          clear c4
          (first | rw [c4b0] | (simp only [i64_w, i32_w]; rw [c4b0]) | skip)
          have H' := Aside0.mk H
          clear H
          go_wp2
          go_meet
          case rel => exact ⟨_, (false), (by first | rfl | (simp; done) | (simp [*]; done)), H', ⟨by have := HK1.out; first | omega | exact Nat.le_refl _⟩, ⟨by (with_reducible repeat (first | apply Kd.R_alloc | apply Kd.R_drewN | apply Kd.R_drew)); exact HO_5.out⟩, ⟨by repeat (first | (with_reducible first | exact HB.out | apply below_alloc | apply pw_below_drewN | apply below_drew1) | exact HB.out)⟩⟩
      case rest =>
        clear HC3
        try clear c1
        try clear p2
        try clear c4
        try clear c4b0
        try clear p2
        obtain ⟨kq, x15_2, rfl, HA, HJ2, HO_5, HB⟩ := hcut
        cases kq with
        | zero => exact absurd HA.out (by simp [federationlaw2_Row.j1])
        | succ kj2 =>
          have H := HA.out
          clear HA
          simp only [federationlaw2_Row.j1] at H
          by_cases c5 : x15_2 = true
          · subst c5
            have H1 : (if 0 ≤ x6_1 then (if x6_1 < (l0.length : Int) then ((federationlaw2_within.f (rd l0 x6_1) 1099511627776).bind fun t102 => ((federationlaw2_within.f t102 (wrap64 ((a1.size : Int) + 1))).bind fun t103 => (if 0 ≤ t103 then (if t103 ≤ (a1.size : Int) then ((federationlaw1_Make.f kj2 t102 (wrap64 ((wrap64 (Int.tdiv t102 300)) - 5000)) (a1.extract 0 (t103 : Int).toNat)).bind fun bt104 => (if x5_1.length < 3518437208883 then (federationlaw2_Row.l0 kj2 l0 a1 (x5_1 ++ [(⟨bt104.1, bt104.2.1, bt104.2.2.1, bt104.2.2.2⟩ : S24)]) (wrap64 (x6_1 + 1))) else (none))) else (none)) else (none)))) else (none)) else (none)) = some r := by rw [if_pos rfl] at H; exact H
            clear H
            have H := H1
            clear H1
            by_cases c6 : 0 ≤ x6_1
            · rw [if_pos c6] at H
              have c6b0 : decide (0 ≤ x6_1) = true := decide_eq_true c6
              clear c6
              by_cases c7 : x6_1 < (l0.length : Int)
              · rw [if_pos c7] at H
                have c7b0 : decide (x6_1 < (l0.length : Int)) = true := decide_eq_true c7
                clear c7
                replace H := Option.bind_eq_some_iff.mp H
                obtain ⟨t102, A80, H⟩ := H
                replace H : ((federationlaw2_within.f t102 (wrap64 ((a1.size : Int) + 1))).bind fun t103 => (if 0 ≤ t103 then (if t103 ≤ (a1.size : Int) then ((federationlaw1_Make.f kj2 t102 (wrap64 ((wrap64 (Int.tdiv t102 300)) - 5000)) (a1.extract 0 (t103 : Int).toNat)).bind fun bt104 => (if x5_1.length < 3518437208883 then (federationlaw2_Row.l0 kj2 l0 a1 (x5_1 ++ [(⟨bt104.1, bt104.2.1, bt104.2.2.1, bt104.2.2.2⟩ : S24)]) (wrap64 (x6_1 + 1))) else (none))) else (none)) else (none))) = some r := H
                have A8 := Aside0.mk A80
                clear A80
                replace H := Option.bind_eq_some_iff.mp H
                obtain ⟨t103, A90, H⟩ := H
                replace H : (if 0 ≤ t103 then (if t103 ≤ (a1.size : Int) then ((federationlaw1_Make.f kj2 t102 (wrap64 ((wrap64 (Int.tdiv t102 300)) - 5000)) (a1.extract 0 (t103 : Int).toNat)).bind fun bt104 => (if x5_1.length < 3518437208883 then (federationlaw2_Row.l0 kj2 l0 a1 (x5_1 ++ [(⟨bt104.1, bt104.2.1, bt104.2.2.1, bt104.2.2.2⟩ : S24)]) (wrap64 (x6_1 + 1))) else (none))) else (none)) else (none)) = some r := H
                have A9 := Aside0.mk A90
                clear A90
                by_cases c10 : 0 ≤ t103
                · rw [if_pos c10] at H
                  have c10b0 := eq_true c10
                  have c10b1 : decide (0 ≤ t103) = true := decide_eq_true c10
                  clear c10
                  by_cases c11 : t103 ≤ (a1.size : Int)
                  · rw [if_pos c11] at H
                    have c11b0 := eq_true c11
                    have c11b1 : decide (t103 ≤ (a1.size : Int)) = true := decide_eq_true c11
                    clear c11
                    replace H := Option.bind_eq_some_iff.mp H
                    obtain ⟨⟨t104, t105, t106, t107⟩, A120, H⟩ := H
                    replace H : (if x5_1.length < 3518437208883 then (federationlaw2_Row.l0 kj2 l0 a1 (x5_1 ++ [(⟨t104, t105, t106, t107⟩ : S24)]) (wrap64 (x6_1 + 1))) else (none)) = some r := H
                    have A12 := Aside0.mk A120
                    clear A120
                    by_cases c13 : x5_1.length < 3518437208883
                    · rw [if_pos c13] at H
                      have LMc13 := Aside0.mk c13
                      clear c13
                      obtain ⟨y108, hy108⟩ : ∃ y_ : List (S24), y_ = (x5_1 ++ [(⟨t104, t105, t106, t107⟩ : S24)]) := ⟨_, rfl⟩
                      replace H : (federationlaw2_Row.l0 kj2 l0 a1 y108 (wrap64 (x6_1 + 1))) = some r := by first | (rw [hy108]; with_reducible exact H) | (have H2_ := (Option.bind_some _ _).symm.trans H; rw [hy108]; with_reducible exact H2_) | (have H2_ := (Option.bind_some _ _).symm.trans H; with_reducible exact H2_) | with_reducible exact H | (rw [hy108]; exact H) | exact H
                      have Ny108 := Aside0.mk hy108
                      clear hy108
                      have H' := Aside0.mk H
                      clear H
                      have p101 : 0 ≤ (x6_1 : Int) := of_decide_eq_true (by first | (with_reducible assumption) | assumption)
                      have q101 : x6_1 < (l0.length : Int) := of_decide_eq_true (by first | (with_reducible assumption) | assumption)
                      obtain ⟨ad101, e101, hx101_0⟩ := Kd.at_int HR0.out x6_1 p101 q101
                      cases e101
                      replace hx101_0 := (HB.out.cell (World.block_lt_of_cell? w _ hx101_0)).trans hx101_0
                      replace p101 := eq_true p101
                      replace q101 := eq_true q101
                      go_wp2_with (first | ((with_reducible refine gate_callee (f := 17) rfl ?_); refine goesL_ (some 22) rfl rfl Try.func17 (by kernel_rfl) rfl #[.int .i64 (rd l0 x6_1), .int .i64 1099511627776] rfl (by (try simp only [List.map_toArray, List.map_cons, List.map_nil]); first | done | rfl | (simp only [List.length_drop, List.length_take]; rfl)) ?_; (with_reducible refine (federationlaw2_within.calls (rd l0 x6_1) 1099511627776 t102 _ A8.out).mono ?_); rintro e w' ⟨rfl, ⟨nd, rfl⟩⟩; refine ⟨_, rfl, ?_⟩) | ((with_reducible refine gate_callee (f := 17) rfl ?_); refine goesL_ (some 33) rfl rfl Try.func17 (by kernel_rfl) rfl #[.int .i64 t102, .int .i64 (wrap64 ((a1.size : Int) + 1))] rfl (by (try simp only [List.map_toArray, List.map_cons, List.map_nil]); first | done | rfl | (simp only [List.length_drop, List.length_take]; rfl)) ?_; (with_reducible refine (federationlaw2_within.calls t102 (wrap64 ((a1.size : Int) + 1)) t103 _ A9.out).mono ?_); rintro e w' ⟨rfl, ⟨nd, rfl⟩⟩; refine ⟨_, rfl, ?_⟩) | ((with_reducible refine gate_callee (f := 13) rfl ?_); refine goesL_ (some 35) rfl rfl Try.func13 (by kernel_rfl) rfl #[.int .i64 t102, .int .i64 (wrap64 ((wrap64 (Int.tdiv t102 300)) - 5000)), .string (a1.extract 0 (t103 : Int).toNat)] rfl (by (try simp only [List.map_toArray, List.map_cons, List.map_nil]); first | done | rfl | (simp only [List.length_drop, List.length_take]; rfl)) ?_; (with_reducible refine (federationlaw1_Make.calls kj2 t102 (wrap64 ((wrap64 (Int.tdiv t102 300)) - 5000)) (a1.extract 0 (t103 : Int).toNat) t104 t105 t106 t107 _ A12.out).mono ?_); rintro e w14 ⟨rfl, hb⟩; refine ⟨_, rfl, ?_⟩; have n0_ := Aside0.mk (Kd.R_below (by (with_reducible repeat (first | apply Kd.R_alloc | apply Kd.R_drewN | apply Kd.R_drew)); exact HO_5.out) hb); have n1_ := Aside0.mk (below_step (by repeat (first | (with_reducible first | exact HB.out | apply below_alloc | apply pw_below_drewN | apply below_drew1) | exact HB.out)) hb); clear HO_5; clear HB; have HO_5 := n0_; have HB := n1_; clear n0_ n1_; (try clear hb); (try clear hb2); (try clear hk); (try clear hi)) | ((with_reducible refine gate_builtin (b := .append) (xs := #[.tmp 23, .tmp 36]) rfl ?_); at_builtin; refine Kd.R_append k24 (w0 := w) w.heap.size rfl (.tmp 23) (.tmp 36) 31 24 (.agg #[(.int .i64 0), (.int .i64 0), (.int .i64 0), (.string ⟨#[]⟩)]) 40 rfl Try.underlying31 info24 rfl (by decide) (by omega) u5 x5_1 (⟨t104, t105, t106, t107⟩ : S24) [.int .i64 t104, .int .i64 t105, .int .i64 t106, .string t107] (fun _ => True) (fun _ => False) rfl rfl ?aP (fun _ hk => hk.elim) ?aF ?aO ?aB ?aS ?aL ?_; (case aP => exact k24_mkM _ _ _ (⟨t104, t105, t106, t107⟩ : S24)); (case aB => exact (by repeat (first | (with_reducible first | exact HB.out | apply below_alloc | apply pw_below_drewN | apply below_drew1) | exact HB.out))); (case aF => exact (fun _ _ => trivial)); (case aO => exact (by (with_reducible repeat (first | apply Kd.R_alloc | apply Kd.R_drewN | apply Kd.R_drew)); exact HO_5.out)); (case aS => exact (below_size (by repeat (first | (with_reducible first | exact HB.out | apply below_alloc | apply pw_below_drewN | apply below_drew1) | exact HB.out)))); (case aL => have := LMc13.out; omega); intro v109 w15 ho hb hg hat; rw [← Ny108.out] at ho; have n0_ := Aside0.mk (hb); have n1_ := Aside0.mk (ho); clear HB; clear HO_5; have HB := n0_; have HO110 := n1_; clear n0_ n1_; clear ho hb hg hat))
                      go_roundg kj2
                      case measure => have := HK1.out; have := HJ2.out; omega
                      case rel => exact ⟨(y108), (wrap64 (x6_1 + 1)), (by first | rfl | (simp; done) | (simp [*]; done)), H', ⟨by have := HK1.out; have := HJ2.out; omega⟩, ⟨by (with_reducible repeat (first | apply Kd.R_alloc | apply Kd.R_drewN | apply Kd.R_drew)); exact HO110.out⟩, ⟨by repeat (first | (with_reducible first | exact HB.out | apply below_alloc | apply pw_below_drewN | apply below_drew1) | exact HB.out)⟩⟩
                    · rw [if_neg c13] at H
                      exact absurd H (by simp)
                  · rw [if_neg c11] at H
                    exact absurd H (by simp)
                · rw [if_neg c10] at H
                  exact absurd H (by simp)
              · rw [if_neg c7] at H
                exact absurd H (by simp)
            · rw [if_neg c6] at H
              exact absurd H (by simp)
          · replace c5 := Bool.eq_false_iff.mpr c5
            subst c5
            have H1 : (some x5_1) = some r := by rw [if_neg (show ¬ (false = true) by decide)] at H; exact H
            clear H
            have H := H1
            clear H1
            obtain rfl := Option.some.inj H
            go_wp2
            go_ret
            exact ⟨_, by first | rfl | (simp [errW_none, errW_some] <;> rfl) | (simp [*, errW_none, errW_some] <;> rfl), by (with_reducible repeat (first | apply Kd.R_alloc | apply Kd.R_drewN | apply Kd.R_drew)); exact HO_5.out, by repeat (first | (with_reducible first | exact HB.out | apply below_alloc | apply pw_below_drewN | apply below_drew1) | exact HB.out)⟩
end Go.Proofs.Ytjacflmgbmfhcaa.K
namespace Go.Proofs.Ytjacflmgbmfhcaa.K
open Go.RowKit Go.Proofs.YtjacflmgbmfhcaaW.PrintWords Go.Proofs.YtjacflmgbmfhcaaW.PrintLast Go.Proofs.YtjacflmgbmfhcaaW.PrintMore
attribute [local go_sem] max2_int min2_int max_two min_two max_three min_three max_four min_four
attribute [local go_sem high] own_gtr own_leq own_geq own_cell_set Option.map_some fld24_3
set_option linter.unusedVariables false
set_option linter.unusedSimpArgs false
attribute [local go_sem high] eqA24
def federationlaw2_KeyCut.f (k : Nat) (a0 : Int) (a1 : Int) (a2 : ByteArray) (a3 : Int) (l4 : List Int) : Option (Bool) := (federationlaw2_known.f k).bind fun t101 => (if t101 = true then (if (a2.size : Int) > 60 then (some true) else ((federationlaw1_Make.f k a0 a1 a2).bind fun bt102 => ((key_Key.f k bt102.1 bt102.2.1 bt102.2.2.1 bt102.2.2.2).bind fun t106 => (if (t106.size : Int) = 0 then (none) else ((federationlaw2_within.f a3 (t106.size : Int)).bind fun t107 => (if 0 ≤ t107 then (if t107 ≤ (t106.size : Int) then ((key_ReadKey.f k (t106.extract 0 (t107 : Int).toNat)).bind fun bt108 => ((federationlaw2_Row.f k l4 a2).bind fun t115 => ((key_Row.f k t115).bind fun t118 => (if (t118.size : Int) = 0 then (none) else ((federationlaw2_within.f a3 (t118.size : Int)).bind fun t119 => (if 0 ≤ t119 then (if t119 ≤ (t118.size : Int) then ((key_ReadRow.f k (t118.extract 0 (t119 : Int).toNat)).bind fun bt120 => (if bt108.2.2.2.2.2 = true then (none) else (if bt108.2.2.2.2.1 = 0 then (if (bt108.1 == 0 && (bt108.2.1 == 0 && (bt108.2.2.1 == 0 && (bt108.2.2.2.1.toList == ([] : List UInt8))))) = true then (if bt120.2 = true then (none) else (some ((bt120.1.length : Int) == 0))) else (none)) else (none)))) else (none)) else (none))))))) else (none)) else (none))))))) else (none))
set_option maxHeartbeats 8000000 in
set_option maxRecDepth 100000 in
theorem federationlaw2_KeyCut.calls (k : Nat) (a0 : Int) (a1 : Int) (a2 : ByteArray) (a3 : Int) (A4 : Option Addr) (c4 : Nat) (l4 : List Int) (r : Bool) (w : World) (hr4 : Kd.C (Kd.int .i64) w A4 l4.length l4) (hc4 : l4.length ≤ c4) (h : federationlaw2_KeyCut.f k a0 a1 a2 a3 l4 = some r) :
    Calls Try.prog 10 #[.int .i64 a0, .int .i64 a1, .string a2, .int .i64 a3, .slice A4 l4.length c4] w fun e w' => e = .returned (.bool r) ∧ Below w.heap.size w w' := by
  have hu24 := Try.underlying24
  have HR4 := Aside0.mk hr4
  have HC4 := Aside0.mk hc4
  clear hr4 hc4
  have HB := Aside0.mk (Below.refl w.heap.size w)
  have H : ((federationlaw2_known.f k).bind fun t101 => (if t101 = true then (if (a2.size : Int) > 60 then (some true) else ((federationlaw1_Make.f k a0 a1 a2).bind fun bt102 => ((key_Key.f k bt102.1 bt102.2.1 bt102.2.2.1 bt102.2.2.2).bind fun t106 => (if (t106.size : Int) = 0 then (none) else ((federationlaw2_within.f a3 (t106.size : Int)).bind fun t107 => (if 0 ≤ t107 then (if t107 ≤ (t106.size : Int) then ((key_ReadKey.f k (t106.extract 0 (t107 : Int).toNat)).bind fun bt108 => ((federationlaw2_Row.f k l4 a2).bind fun t115 => ((key_Row.f k t115).bind fun t118 => (if (t118.size : Int) = 0 then (none) else ((federationlaw2_within.f a3 (t118.size : Int)).bind fun t119 => (if 0 ≤ t119 then (if t119 ≤ (t118.size : Int) then ((key_ReadRow.f k (t118.extract 0 (t119 : Int).toNat)).bind fun bt120 => (if bt108.2.2.2.2.2 = true then (none) else (if bt108.2.2.2.2.1 = 0 then (if (bt108.1 == 0 && (bt108.2.1 == 0 && (bt108.2.2.1 == 0 && (bt108.2.2.2.1.toList == ([] : List UInt8))))) = true then (if bt120.2 = true then (none) else (some ((bt120.1.length : Int) == 0))) else (none)) else (none)))) else (none)) else (none))))))) else (none)) else (none))))))) else (none))) = some r := h
  clear h
  replace H := Option.bind_eq_some_iff.mp H
  obtain ⟨t101, A60, H⟩ := H
  replace H : (if t101 = true then (if (a2.size : Int) > 60 then (some true) else ((federationlaw1_Make.f k a0 a1 a2).bind fun bt102 => ((key_Key.f k bt102.1 bt102.2.1 bt102.2.2.1 bt102.2.2.2).bind fun t106 => (if (t106.size : Int) = 0 then (none) else ((federationlaw2_within.f a3 (t106.size : Int)).bind fun t107 => (if 0 ≤ t107 then (if t107 ≤ (t106.size : Int) then ((key_ReadKey.f k (t106.extract 0 (t107 : Int).toNat)).bind fun bt108 => ((federationlaw2_Row.f k l4 a2).bind fun t115 => ((key_Row.f k t115).bind fun t118 => (if (t118.size : Int) = 0 then (none) else ((federationlaw2_within.f a3 (t118.size : Int)).bind fun t119 => (if 0 ≤ t119 then (if t119 ≤ (t118.size : Int) then ((key_ReadRow.f k (t118.extract 0 (t119 : Int).toNat)).bind fun bt120 => (if bt108.2.2.2.2.2 = true then (none) else (if bt108.2.2.2.2.1 = 0 then (if (bt108.1 == 0 && (bt108.2.1 == 0 && (bt108.2.2.1 == 0 && (bt108.2.2.2.1.toList == ([] : List UInt8))))) = true then (if bt120.2 = true then (none) else (some ((bt120.1.length : Int) == 0))) else (none)) else (none)))) else (none)) else (none))))))) else (none)) else (none))))))) else (none)) = some r := H
  have A6 := Aside0.mk A60
  clear A60
  by_cases c7 : t101 = true
  · subst c7
    have H1 : (if (a2.size : Int) > 60 then (some true) else ((federationlaw1_Make.f k a0 a1 a2).bind fun bt102 => ((key_Key.f k bt102.1 bt102.2.1 bt102.2.2.1 bt102.2.2.2).bind fun t106 => (if (t106.size : Int) = 0 then (none) else ((federationlaw2_within.f a3 (t106.size : Int)).bind fun t107 => (if 0 ≤ t107 then (if t107 ≤ (t106.size : Int) then ((key_ReadKey.f k (t106.extract 0 (t107 : Int).toNat)).bind fun bt108 => ((federationlaw2_Row.f k l4 a2).bind fun t115 => ((key_Row.f k t115).bind fun t118 => (if (t118.size : Int) = 0 then (none) else ((federationlaw2_within.f a3 (t118.size : Int)).bind fun t119 => (if 0 ≤ t119 then (if t119 ≤ (t118.size : Int) then ((key_ReadRow.f k (t118.extract 0 (t119 : Int).toNat)).bind fun bt120 => (if bt108.2.2.2.2.2 = true then (none) else (if bt108.2.2.2.2.1 = 0 then (if (bt108.1 == 0 && (bt108.2.1 == 0 && (bt108.2.2.1 == 0 && (bt108.2.2.2.1.toList == ([] : List UInt8))))) = true then (if bt120.2 = true then (none) else (some ((bt120.1.length : Int) == 0))) else (none)) else (none)))) else (none)) else (none))))))) else (none)) else (none))))))) = some r := by rw [if_pos rfl] at H; exact H
    clear H
    have H := H1
    clear H1
    by_cases c8 : (a2.size : Int) > 60
    · rw [if_pos c8] at H
      have c8b0 : decide (60 < (a2.size : Int)) = true := decide_eq_true c8
      have c8b1 : decide (60 < a2.size) = true := decide_eq_true (by omega)
      clear c8
      obtain rfl := Option.some.inj H
      go_enter Try.func10, Try.ntmps10
      go_wp2_with (first | ((with_reducible refine gate_callee (f := 12) rfl ?_); refine goesL_ (some 18) rfl rfl Try.func12 (by kernel_rfl) rfl #[] rfl (by (try simp only [List.map_toArray, List.map_cons, List.map_nil]); first | done | rfl | (simp only [List.length_drop, List.length_take]; rfl)) ?_; (with_reducible refine (federationlaw2_known.calls k  true _ A6.out).mono ?_); rintro e w9 ⟨rfl, hb⟩; refine ⟨_, rfl, ?_⟩; have n0_ := Aside0.mk (below_step (by repeat (first | (with_reducible first | exact HB.out | apply below_alloc | apply pw_below_drewN | apply below_drew1) | exact HB.out)) hb); clear HB; have HB := n0_; clear n0_; (try clear hb); (try clear hb2); (try clear hk); (try clear hi)))
      go_ret
      exact ⟨by first | rfl | (simp [errW_none, errW_some] <;> rfl) | (simp [*, errW_none, errW_some] <;> rfl), by repeat (first | (with_reducible first | exact HB.out | apply below_alloc | apply pw_below_drewN | apply below_drew1) | exact HB.out)⟩
    · rw [if_neg c8] at H
      have c8b0 : decide (60 < (a2.size : Int)) = false := decide_eq_false c8
      have c8b1 : decide (60 < a2.size) = false := decide_eq_false (by omega)
      clear c8
      replace H := Option.bind_eq_some_iff.mp H
      obtain ⟨⟨t102, t103, t104, t105⟩, A100, H⟩ := H
      replace H : ((key_Key.f k t102 t103 t104 t105).bind fun t106 => (if (t106.size : Int) = 0 then (none) else ((federationlaw2_within.f a3 (t106.size : Int)).bind fun t107 => (if 0 ≤ t107 then (if t107 ≤ (t106.size : Int) then ((key_ReadKey.f k (t106.extract 0 (t107 : Int).toNat)).bind fun bt108 => ((federationlaw2_Row.f k l4 a2).bind fun t115 => ((key_Row.f k t115).bind fun t118 => (if (t118.size : Int) = 0 then (none) else ((federationlaw2_within.f a3 (t118.size : Int)).bind fun t119 => (if 0 ≤ t119 then (if t119 ≤ (t118.size : Int) then ((key_ReadRow.f k (t118.extract 0 (t119 : Int).toNat)).bind fun bt120 => (if bt108.2.2.2.2.2 = true then (none) else (if bt108.2.2.2.2.1 = 0 then (if (bt108.1 == 0 && (bt108.2.1 == 0 && (bt108.2.2.1 == 0 && (bt108.2.2.2.1.toList == ([] : List UInt8))))) = true then (if bt120.2 = true then (none) else (some ((bt120.1.length : Int) == 0))) else (none)) else (none)))) else (none)) else (none))))))) else (none)) else (none))))) = some r := H
      have A10 := Aside0.mk A100
      clear A100
      replace H := Option.bind_eq_some_iff.mp H
      obtain ⟨t106, A110, H⟩ := H
      replace H : (if (t106.size : Int) = 0 then (none) else ((federationlaw2_within.f a3 (t106.size : Int)).bind fun t107 => (if 0 ≤ t107 then (if t107 ≤ (t106.size : Int) then ((key_ReadKey.f k (t106.extract 0 (t107 : Int).toNat)).bind fun bt108 => ((federationlaw2_Row.f k l4 a2).bind fun t115 => ((key_Row.f k t115).bind fun t118 => (if (t118.size : Int) = 0 then (none) else ((federationlaw2_within.f a3 (t118.size : Int)).bind fun t119 => (if 0 ≤ t119 then (if t119 ≤ (t118.size : Int) then ((key_ReadRow.f k (t118.extract 0 (t119 : Int).toNat)).bind fun bt120 => (if bt108.2.2.2.2.2 = true then (none) else (if bt108.2.2.2.2.1 = 0 then (if (bt108.1 == 0 && (bt108.2.1 == 0 && (bt108.2.2.1 == 0 && (bt108.2.2.2.1.toList == ([] : List UInt8))))) = true then (if bt120.2 = true then (none) else (some ((bt120.1.length : Int) == 0))) else (none)) else (none)))) else (none)) else (none))))))) else (none)) else (none)))) = some r := H
      have A11 := Aside0.mk A110
      clear A110
      by_cases c12 : (t106.size : Int) = 0
      · rw [if_pos c12] at H
        exact absurd H (by simp)
      · rw [if_neg c12] at H
        have c12b0 : ((t106.size : Int) == 0) = false := beq_eq_false_iff_ne.mpr c12
        have c12b1 : ((t106.size : Int) != 0) = true := bne_iff_ne.mpr c12
        replace H := Option.bind_eq_some_iff.mp H
        obtain ⟨t107, A130, H⟩ := H
        replace H : (if 0 ≤ t107 then (if t107 ≤ (t106.size : Int) then ((key_ReadKey.f k (t106.extract 0 (t107 : Int).toNat)).bind fun bt108 => ((federationlaw2_Row.f k l4 a2).bind fun t115 => ((key_Row.f k t115).bind fun t118 => (if (t118.size : Int) = 0 then (none) else ((federationlaw2_within.f a3 (t118.size : Int)).bind fun t119 => (if 0 ≤ t119 then (if t119 ≤ (t118.size : Int) then ((key_ReadRow.f k (t118.extract 0 (t119 : Int).toNat)).bind fun bt120 => (if bt108.2.2.2.2.2 = true then (none) else (if bt108.2.2.2.2.1 = 0 then (if (bt108.1 == 0 && (bt108.2.1 == 0 && (bt108.2.2.1 == 0 && (bt108.2.2.2.1.toList == ([] : List UInt8))))) = true then (if bt120.2 = true then (none) else (some ((bt120.1.length : Int) == 0))) else (none)) else (none)))) else (none)) else (none))))))) else (none)) else (none)) = some r := H
        have A13 := Aside0.mk A130
        clear A130
        by_cases c14 : 0 ≤ t107
        · rw [if_pos c14] at H
          have c14b0 := eq_true c14
          have c14b1 : decide (0 ≤ t107) = true := decide_eq_true c14
          clear c14
          by_cases c15 : t107 ≤ (t106.size : Int)
          · rw [if_pos c15] at H
            have c15b0 := eq_true c15
            have c15b1 : decide (t107 ≤ (t106.size : Int)) = true := decide_eq_true c15
            clear c15
            replace H := Option.bind_eq_some_iff.mp H
            obtain ⟨⟨t108, t109, t110, t111, t112, t113⟩, A160, H⟩ := H
            replace H : ((federationlaw2_Row.f k l4 a2).bind fun t115 => ((key_Row.f k t115).bind fun t118 => (if (t118.size : Int) = 0 then (none) else ((federationlaw2_within.f a3 (t118.size : Int)).bind fun t119 => (if 0 ≤ t119 then (if t119 ≤ (t118.size : Int) then ((key_ReadRow.f k (t118.extract 0 (t119 : Int).toNat)).bind fun bt120 => (if t113 = true then (none) else (if t112 = 0 then (if (t108 == 0 && (t109 == 0 && (t110 == 0 && (t111.toList == ([] : List UInt8))))) = true then (if bt120.2 = true then (none) else (some ((bt120.1.length : Int) == 0))) else (none)) else (none)))) else (none)) else (none)))))) = some r := H
            have A16 := Aside0.mk A160
            clear A160
            replace H := Option.bind_eq_some_iff.mp H
            obtain ⟨t115, A170, H⟩ := H
            replace H : ((key_Row.f k t115).bind fun t118 => (if (t118.size : Int) = 0 then (none) else ((federationlaw2_within.f a3 (t118.size : Int)).bind fun t119 => (if 0 ≤ t119 then (if t119 ≤ (t118.size : Int) then ((key_ReadRow.f k (t118.extract 0 (t119 : Int).toNat)).bind fun bt120 => (if t113 = true then (none) else (if t112 = 0 then (if (t108 == 0 && (t109 == 0 && (t110 == 0 && (t111.toList == ([] : List UInt8))))) = true then (if bt120.2 = true then (none) else (some ((bt120.1.length : Int) == 0))) else (none)) else (none)))) else (none)) else (none))))) = some r := H
            have A17 := Aside0.mk A170
            clear A170
            replace H := Option.bind_eq_some_iff.mp H
            obtain ⟨t118, A180, H⟩ := H
            replace H : (if (t118.size : Int) = 0 then (none) else ((federationlaw2_within.f a3 (t118.size : Int)).bind fun t119 => (if 0 ≤ t119 then (if t119 ≤ (t118.size : Int) then ((key_ReadRow.f k (t118.extract 0 (t119 : Int).toNat)).bind fun bt120 => (if t113 = true then (none) else (if t112 = 0 then (if (t108 == 0 && (t109 == 0 && (t110 == 0 && (t111.toList == ([] : List UInt8))))) = true then (if bt120.2 = true then (none) else (some ((bt120.1.length : Int) == 0))) else (none)) else (none)))) else (none)) else (none)))) = some r := H
            have A18 := Aside0.mk A180
            clear A180
            by_cases c19 : (t118.size : Int) = 0
            · rw [if_pos c19] at H
              exact absurd H (by simp)
            · rw [if_neg c19] at H
              have c19b0 : ((t118.size : Int) == 0) = false := beq_eq_false_iff_ne.mpr c19
              have c19b1 : ((t118.size : Int) != 0) = true := bne_iff_ne.mpr c19
              replace H := Option.bind_eq_some_iff.mp H
              obtain ⟨t119, A200, H⟩ := H
              replace H : (if 0 ≤ t119 then (if t119 ≤ (t118.size : Int) then ((key_ReadRow.f k (t118.extract 0 (t119 : Int).toNat)).bind fun bt120 => (if t113 = true then (none) else (if t112 = 0 then (if (t108 == 0 && (t109 == 0 && (t110 == 0 && (t111.toList == ([] : List UInt8))))) = true then (if bt120.2 = true then (none) else (some ((bt120.1.length : Int) == 0))) else (none)) else (none)))) else (none)) else (none)) = some r := H
              have A20 := Aside0.mk A200
              clear A200
              by_cases c21 : 0 ≤ t119
              · rw [if_pos c21] at H
                have c21b0 := eq_true c21
                have c21b1 : decide (0 ≤ t119) = true := decide_eq_true c21
                clear c21
                by_cases c22 : t119 ≤ (t118.size : Int)
                · rw [if_pos c22] at H
                  have c22b0 := eq_true c22
                  have c22b1 : decide (t119 ≤ (t118.size : Int)) = true := decide_eq_true c22
                  clear c22
                  replace H := Option.bind_eq_some_iff.mp H
                  obtain ⟨⟨t120, t121⟩, A230, H⟩ := H
                  replace H : (if t113 = true then (none) else (if t112 = 0 then (if (t108 == 0 && (t109 == 0 && (t110 == 0 && (t111.toList == ([] : List UInt8))))) = true then (if t121 = true then (none) else (some ((t120.length : Int) == 0))) else (none)) else (none))) = some r := H
                  have A23 := Aside0.mk A230
                  clear A230
                  by_cases c24 : t113 = true
                  · subst c24
                    have H1 : (none) = some r := by rw [if_pos rfl] at H; exact H
                    clear H
                    have H := H1
                    clear H1
                    exact absurd H (by simp)
                  · replace c24 := Bool.eq_false_iff.mpr c24
                    subst c24
                    have H1 : (if t112 = 0 then (if (t108 == 0 && (t109 == 0 && (t110 == 0 && (t111.toList == ([] : List UInt8))))) = true then (if t121 = true then (none) else (some ((t120.length : Int) == 0))) else (none)) else (none)) = some r := by rw [if_neg (show ¬ (false = true) by decide)] at H; exact H
                    clear H
                    have H := H1
                    clear H1
                    by_cases c25 : t112 = 0
                    · rw [if_pos c25] at H
                      have c25b0 : (t112 == 0) = true := beq_iff_eq.mpr c25
                      have c25b1 : (t112 != 0) = false := bne_eq_false_iff_eq.mpr c25
                      clear c25
                      by_cases c26 : (t108 == 0 && (t109 == 0 && (t110 == 0 && (t111.toList == ([] : List UInt8))))) = true
                      · rw [if_pos c26] at H
                        have c26b0 : (t108 == 0 && (t109 == 0 && (t110 == 0 && (t111.toList == ([] : List UInt8))))) = true := c26
                        have c26b7 := c26b0
                        simp only [Bool.and_eq_true, beq_iff_eq] at c26b7
                        have c26b8 := eq_true c26b7
                        clear c26b7
                        (try (have c26b1 : decide (t108 = 0 && (t109 == 0 && (t110 == 0 && (t111.toList == ([] : List UInt8))))) = true := by simpa using c26))
                        (try (have c26b2 : (t108 == 0 && (t109 == 0 && (t110 == 0 && (t111.toList == ([] : List UInt8))))) = true := by simpa using c26))
                        clear c26
                        by_cases c27 : t121 = true
                        · subst c27
                          have H1 : (none) = some r := by rw [if_pos rfl] at H; exact H
                          clear H
                          have H := H1
                          clear H1
                          exact absurd H (by simp)
                        · replace c27 := Bool.eq_false_iff.mpr c27
                          subst c27
                          have H1 : (some ((t120.length : Int) == 0)) = some r := by rw [if_neg (show ¬ (false = true) by decide)] at H; exact H
                          clear H
                          have H := H1
                          clear H1
                          obtain rfl := Option.some.inj H
                          go_enter Try.func10, Try.ntmps10
                          go_wp2_with (first | ((with_reducible refine gate_callee (f := 12) rfl ?_); refine goesL_ (some 18) rfl rfl Try.func12 (by kernel_rfl) rfl #[] rfl (by (try simp only [List.map_toArray, List.map_cons, List.map_nil]); first | done | rfl | (simp only [List.length_drop, List.length_take]; rfl)) ?_; (with_reducible refine (federationlaw2_known.calls k  true _ A6.out).mono ?_); rintro e w28 ⟨rfl, hb⟩; refine ⟨_, rfl, ?_⟩; have n0_ := Aside0.mk (below_step (by repeat (first | (with_reducible first | exact HB.out | apply below_alloc | apply pw_below_drewN | apply below_drew1) | exact HB.out)) hb); clear HB; have HB := n0_; clear n0_; (try clear hb); (try clear hb2); (try clear hk); (try clear hi)) | ((with_reducible refine gate_callee (f := 13) rfl ?_); refine goesL_ (some 26) rfl rfl Try.func13 (by kernel_rfl) rfl #[.int .i64 a0, .int .i64 a1, .string a2] rfl (by (try simp only [List.map_toArray, List.map_cons, List.map_nil]); first | done | rfl | (simp only [List.length_drop, List.length_take]; rfl)) ?_; (with_reducible refine (federationlaw1_Make.calls k a0 a1 a2 t102 t103 t104 t105 _ A10.out).mono ?_); rintro e w29 ⟨rfl, hb⟩; refine ⟨_, rfl, ?_⟩; have n0_ := Aside0.mk (below_step (by repeat (first | (with_reducible first | exact HB.out | apply below_alloc | apply pw_below_drewN | apply below_drew1) | exact HB.out)) hb); clear HB; have HB := n0_; clear n0_; (try clear hb); (try clear hb2); (try clear hk); (try clear hi)) | ((with_reducible refine gate_callee (f := 14) rfl ?_); refine goesL_ (some 27) rfl rfl Try.func14 (by kernel_rfl) rfl #[.agg #[.int .i64 t102, .int .i64 t103, .int .i64 t104, .string t105]] rfl (by (try simp only [List.map_toArray, List.map_cons, List.map_nil]); first | done | rfl | (simp only [List.length_drop, List.length_take]; rfl)) ?_; (with_reducible refine (key_Key.calls k t102 t103 t104 t105 t106 _ A11.out).mono ?_); rintro e w30 ⟨rfl, hb⟩; refine ⟨_, rfl, ?_⟩; have n0_ := Aside0.mk (below_step (by repeat (first | (with_reducible first | exact HB.out | apply below_alloc | apply pw_below_drewN | apply below_drew1) | exact HB.out)) hb); clear HB; have HB := n0_; clear n0_; (try clear hb); (try clear hb2); (try clear hk); (try clear hi)) | ((with_reducible refine gate_callee (f := 17) rfl ?_); refine goesL_ (some 36) rfl rfl Try.func17 (by kernel_rfl) rfl #[.int .i64 a3, .int .i64 (t106.size : Int)] rfl (by (try simp only [List.map_toArray, List.map_cons, List.map_nil]); first | done | rfl | (simp only [List.length_drop, List.length_take]; rfl)) ?_; (with_reducible refine (federationlaw2_within.calls a3 (t106.size : Int) t107 _ A13.out).mono ?_); rintro e w' ⟨rfl, ⟨nd, rfl⟩⟩; refine ⟨_, rfl, ?_⟩; (try (rw [drewN_self w30]; generalize hq_ : World.drewN w30 _ = w30; have n0_ : Aside0 (Below w.heap.size w w30) := ⟨by rw [← hq_]; exact (by repeat (first | (with_reducible first | exact HB.out | apply below_alloc | apply pw_below_drewN | apply below_drew1) | exact HB.out))⟩; clear HB hq_; have HB := n0_; clear n0_))) | ((with_reducible refine gate_callee (f := 15) rfl ?_); refine goesL_ (some 38) rfl rfl Try.func15 (by kernel_rfl) rfl #[.string (t106.extract 0 (t107 : Int).toNat)] rfl (by (try simp only [List.map_toArray, List.map_cons, List.map_nil]); first | done | rfl | (simp only [List.length_drop, List.length_take]; rfl)) ?_; (with_reducible refine (key_ReadKey.calls k (t106.extract 0 (t107 : Int).toNat) t108 t109 t110 t111 t112 false _ A16.out).mono ?_); rintro e w31 ⟨rfl, hb⟩; refine ⟨_, rfl, ?_⟩; have n0_ := Aside0.mk (below_step (by repeat (first | (with_reducible first | exact HB.out | apply below_alloc | apply pw_below_drewN | apply below_drew1) | exact HB.out)) hb); clear HB; have HB := n0_; clear n0_; (try clear hb); (try clear hb2); (try clear hk); (try clear hi)) | ((with_reducible refine gate_dst (N := 12) rfl ?_); (try (refine gate_guard (by rfl) ?_; dsimp only)); refine box_event ?hg (N := 12) ?hd (cs := #[.int .i64 0, .int .i64 0, .int .i64 0, .string (⟨#[]⟩ : ByteArray)]) (t := 24) ?hr ?_; (case hd => rfl); (case hg => rfl); (case hr => first | (go_simp; done) | (go_simp; rfl)); intro gb114 hg w32 hbox hb; have n0_ := Aside0.mk (below_step (by repeat (first | (with_reducible first | exact HB.out | apply below_alloc | apply pw_below_drewN | apply below_drew1) | exact HB.out)) hb); have n1_ := Aside0.mk (hbox); have n2_ := Aside0.mk ((by rw [hg]; exact (below_size (by repeat (first | (with_reducible first | exact HB.out | apply below_alloc | apply pw_below_drewN | apply below_drew1) | exact HB.out))) : w.heap.size ≤ gb114)); have n3_ := Aside0.mk ((by rw [hg]; exact (below_size (by repeat (first | (with_reducible first | exact HB.out | apply below_alloc | apply pw_below_drewN | apply below_drew1) | exact HB.out))) : w.heap.size ≤ gb114)); clear HB; have HB := n0_; have BK114 := n1_; have GW114 := n2_; have GE114 := n3_; clear n0_ n1_ n2_ n3_; clear hb hbox hg; have hcz33_0 : w32.cell? ⟨gb114, 0, none⟩ = some (.int .i64 0) := (blk_cell BK114.out 0).trans rfl; have hcz33_1 : w32.cell? ⟨gb114, 1, none⟩ = some (.int .i64 0) := (blk_cell BK114.out 1).trans rfl; have hcz33_2 : w32.cell? ⟨gb114, 2, none⟩ = some (.int .i64 0) := (blk_cell BK114.out 2).trans rfl; have hcz33_3 : w32.cell? ⟨gb114, 3, none⟩ = some (.string (⟨#[]⟩ : ByteArray)) := (blk_cell BK114.out 3).trans rfl; have hfz33_0 := blk_frozen BK114.out 0; have hfz33_1 := blk_frozen BK114.out 1; have hfz33_2 := blk_frozen BK114.out 2; have hfz33_3 := blk_frozen BK114.out 3) | ((with_reducible refine gate_callee (f := 19) rfl ?_); refine goesL_ (some 44) rfl rfl Try.func19 (by kernel_rfl) rfl #[.slice A4 l4.length c4, .string a2] rfl (by (try simp only [List.map_toArray, List.map_cons, List.map_nil]); first | done | rfl | (simp only [List.length_drop, List.length_take]; rfl)) ?_; (with_reducible refine (federationlaw2_Row.calls k _ _ l4 a2 t115 _ ?side1 ?side2 A17.out).mono ?_); (case side1 => exact Kd.C_below HR4.out (by repeat (first | (with_reducible first | exact HB.out | apply below_alloc | apply pw_below_drewN | apply below_drew1 | refine below_set ?_ GE114.out) | exact HB.out))); (case side2 => exact HC4.out); rintro e w34 ⟨v116, rfl, ho0, hb⟩; refine ⟨_, rfl, ?_⟩; have n0_ := Aside0.mk (Kd.R_lower (Kd.R_newB ho0 (g := gb114) (o := .cells #[.int .i64 t108, .int .i64 t109, .int .i64 t110, .string t111] 24 (0, 0)) (by (with_reducible repeat (first | refine blk_drewN ?_ _ | refine blk_drew ?_ | refine blk_alloc ?_ _)); refine blk_put (cs := #[.int .i64 t108, .int .i64 t109, .int .i64 t110, .string (⟨#[]⟩ : ByteArray)]) ?_ 3 _ rfl; (with_reducible repeat (first | refine blk_drewN ?_ _ | refine blk_drew ?_ | refine blk_alloc ?_ _)); refine blk_put (cs := #[.int .i64 t108, .int .i64 t109, .int .i64 0, .string (⟨#[]⟩ : ByteArray)]) ?_ 2 _ rfl; (with_reducible repeat (first | refine blk_drewN ?_ _ | refine blk_drew ?_ | refine blk_alloc ?_ _)); refine blk_put (cs := #[.int .i64 t108, .int .i64 0, .int .i64 0, .string (⟨#[]⟩ : ByteArray)]) ?_ 1 _ rfl; (with_reducible repeat (first | refine blk_drewN ?_ _ | refine blk_drew ?_ | refine blk_alloc ?_ _)); refine blk_put (cs := #[.int .i64 0, .int .i64 0, .int .i64 0, .string (⟨#[]⟩ : ByteArray)]) ?_ 0 _ rfl; (with_reducible repeat (first | refine blk_drewN ?_ _ | refine blk_drew ?_ | refine blk_alloc ?_ _)); exact BK114.out)) (below_size (by repeat (first | (with_reducible first | exact HB.out | apply below_alloc | apply pw_below_drewN | apply below_drew1 | refine below_set ?_ GE114.out) | exact HB.out)))); have n1_ := Aside0.mk (blk_below (g := gb114) (o := .cells #[.int .i64 t108, .int .i64 t109, .int .i64 t110, .string t111] 24 (0, 0)) (by (with_reducible repeat (first | refine blk_drewN ?_ _ | refine blk_drew ?_ | refine blk_alloc ?_ _)); refine blk_put (cs := #[.int .i64 t108, .int .i64 t109, .int .i64 t110, .string (⟨#[]⟩ : ByteArray)]) ?_ 3 _ rfl; (with_reducible repeat (first | refine blk_drewN ?_ _ | refine blk_drew ?_ | refine blk_alloc ?_ _)); refine blk_put (cs := #[.int .i64 t108, .int .i64 t109, .int .i64 0, .string (⟨#[]⟩ : ByteArray)]) ?_ 2 _ rfl; (with_reducible repeat (first | refine blk_drewN ?_ _ | refine blk_drew ?_ | refine blk_alloc ?_ _)); refine blk_put (cs := #[.int .i64 t108, .int .i64 0, .int .i64 0, .string (⟨#[]⟩ : ByteArray)]) ?_ 1 _ rfl; (with_reducible repeat (first | refine blk_drewN ?_ _ | refine blk_drew ?_ | refine blk_alloc ?_ _)); refine blk_put (cs := #[.int .i64 0, .int .i64 0, .int .i64 0, .string (⟨#[]⟩ : ByteArray)]) ?_ 0 _ rfl; (with_reducible repeat (first | refine blk_drewN ?_ _ | refine blk_drew ?_ | refine blk_alloc ?_ _)); exact BK114.out) hb); have n2_ := Aside0.mk (below_step (by repeat (first | (with_reducible first | exact HB.out | apply below_alloc | apply pw_below_drewN | apply below_drew1 | refine below_set ?_ GE114.out) | exact HB.out)) hb); clear BK114; clear HB; have HO117 := n0_; have BK114 := n1_; have HB := n2_; clear n0_ n1_ n2_; (try clear hb); (try clear hb2); (try clear hk); (try clear hi); (try clear ho0); obtain ⟨Ao35, co35, eo35⟩ := Kd.R_slice HO117.out; subst eo35) | ((with_reducible refine gate_callee (f := 20) rfl ?_); refine goesL_ (some 45) rfl rfl Try.func20 (by kernel_rfl) rfl #[.slice Ao35 t115.length co35] rfl (by (try simp only [List.map_toArray, List.map_cons, List.map_nil]); first | done | rfl | (simp only [List.length_drop, List.length_take]; rfl)) ?_; (with_reducible refine (key_Row.calls k _ _ t115 t118 _ ?side1 ?side2 A18.out).mono ?_); (case side1 => repeat (first | exact (Kd.R_reads' HO117.out).2.2 | (with_reducible refine Kd.C_alloc ?_ _) | (with_reducible refine Kd.C_drewN ?_ _) | (with_reducible refine Kd.C_drew ?_))); (case side2 => exact (Kd.R_reads' HO117.out).2.1); rintro e w36 ⟨rfl, hb⟩; refine ⟨_, rfl, ?_⟩; have n0_ := Aside0.mk (Kd.R_below (by (with_reducible repeat (first | apply Kd.R_alloc | apply Kd.R_drewN | apply Kd.R_drew)); exact HO117.out) hb); have n1_ := Aside0.mk (blk_below (g := gb114) (o := .cells #[.int .i64 t108, .int .i64 t109, .int .i64 t110, .string t111] 24 (0, 0)) (by (with_reducible repeat (first | refine blk_drewN ?_ _ | refine blk_drew ?_ | refine blk_alloc ?_ _)); exact BK114.out) hb); have n2_ := Aside0.mk (below_step (by repeat (first | (with_reducible first | exact HB.out | apply below_alloc | apply pw_below_drewN | apply below_drew1 | refine below_set ?_ GE114.out) | exact HB.out)) hb); clear HO117; clear BK114; clear HB; have HO117 := n0_; have BK114 := n1_; have HB := n2_; clear n0_ n1_ n2_; (try clear hb); (try clear hb2); (try clear hk); (try clear hi)) | ((with_reducible refine gate_callee (f := 17) rfl ?_); refine goesL_ (some 54) rfl rfl Try.func17 (by kernel_rfl) rfl #[.int .i64 a3, .int .i64 (t118.size : Int)] rfl (by (try simp only [List.map_toArray, List.map_cons, List.map_nil]); first | done | rfl | (simp only [List.length_drop, List.length_take]; rfl)) ?_; (with_reducible refine (federationlaw2_within.calls a3 (t118.size : Int) t119 _ A20.out).mono ?_); rintro e w' ⟨rfl, ⟨nd, rfl⟩⟩; refine ⟨_, rfl, ?_⟩) | ((with_reducible refine gate_callee (f := 21) rfl ?_); refine goesL_ (some 56) rfl rfl Try.func21 (by kernel_rfl) rfl #[.string (t118.extract 0 (t119 : Int).toNat)] rfl (by (try simp only [List.map_toArray, List.map_cons, List.map_nil]); first | done | rfl | (simp only [List.length_drop, List.length_take]; rfl)) ?_; (with_reducible refine (key_ReadRow.calls k (t118.extract 0 (t119 : Int).toNat) t120 false _ A23.out).mono ?_); rintro e w37 ⟨v122, rfl, ho0, hb⟩; refine ⟨_, rfl, ?_⟩; have n0_ := Aside0.mk (Kd.R_elder' (by (with_reducible repeat (first | apply Kd.R_alloc | apply Kd.R_drewN | apply Kd.R_drew)); exact HO117.out) (Kd.R_base ho0) hb); have n1_ := Aside0.mk (Kd.R_lower (Kd.R_newB (Kd.R_new' ho0 (Kd.R_lt (by (with_reducible repeat (first | apply Kd.R_alloc | apply Kd.R_drewN | apply Kd.R_drew)); exact HO117.out))) (g := gb114) (o := .cells #[.int .i64 t108, .int .i64 t109, .int .i64 t110, .string t111] 24 (0, 0)) (by (with_reducible repeat (first | refine blk_drewN ?_ _ | refine blk_drew ?_ | refine blk_alloc ?_ _)); exact BK114.out)) (below_size (by repeat (first | (with_reducible first | exact HB.out | apply below_alloc | apply pw_below_drewN | apply below_drew1 | refine below_set ?_ GE114.out) | exact HB.out)))); have n2_ := Aside0.mk (blk_below (g := gb114) (o := .cells #[.int .i64 t108, .int .i64 t109, .int .i64 t110, .string t111] 24 (0, 0)) (by (with_reducible repeat (first | refine blk_drewN ?_ _ | refine blk_drew ?_ | refine blk_alloc ?_ _)); exact BK114.out) hb); have n3_ := Aside0.mk (below_step (by repeat (first | (with_reducible first | exact HB.out | apply below_alloc | apply pw_below_drewN | apply below_drew1 | refine below_set ?_ GE114.out) | exact HB.out)) hb); clear HO117; clear BK114; clear HB; have HO117 := n0_; have HO123 := n1_; have BK114 := n2_; have HB := n3_; clear n0_ n1_ n2_ n3_; (try clear hb); (try clear hb2); (try clear hk); (try clear hi); (try clear ho0); have hcz38_0 : w37.cell? ⟨gb114, 0, none⟩ = some (.int .i64 t108) := (blk_cell BK114.out 0).trans rfl; have hcz38_1 : w37.cell? ⟨gb114, 1, none⟩ = some (.int .i64 t109) := (blk_cell BK114.out 1).trans rfl; have hcz38_2 : w37.cell? ⟨gb114, 2, none⟩ = some (.int .i64 t110) := (blk_cell BK114.out 2).trans rfl; have hcz38_3 : w37.cell? ⟨gb114, 3, none⟩ = some (.string t111) := (blk_cell BK114.out 3).trans rfl; have hfz38_0 := blk_frozen BK114.out 0; have hfz38_1 := blk_frozen BK114.out 1; have hfz38_2 := blk_frozen BK114.out 2; have hfz38_3 := blk_frozen BK114.out 3; obtain ⟨Ao39, co39, eo39⟩ := Kd.R_slice HO123.out; subst eo39))
                          go_ret
                          exact ⟨by first | rfl | (simp [errW_none, errW_some] <;> rfl) | (simp [*, errW_none, errW_some] <;> rfl), by repeat (first | (with_reducible first | exact HB.out | apply below_alloc | apply pw_below_drewN | apply below_drew1 | refine below_set ?_ GE114.out) | exact HB.out)⟩
                      · rw [if_neg c26] at H
                        exact absurd H (by simp)
                    · rw [if_neg c25] at H
                      exact absurd H (by simp)
                · rw [if_neg c22] at H
                  exact absurd H (by simp)
              · rw [if_neg c21] at H
                exact absurd H (by simp)
          · rw [if_neg c15] at H
            exact absurd H (by simp)
        · rw [if_neg c14] at H
          exact absurd H (by simp)
  · replace c7 := Bool.eq_false_iff.mpr c7
    subst c7
    have H1 : (none) = some r := by rw [if_neg (show ¬ (false = true) by decide)] at H; exact H
    clear H
    have H := H1
    clear H1
    exact absurd H (by simp)
def federationlaw2_KeyCut.Pure : Prop := ∀ (a0 : Int) (a1 : Int) (a2 : ByteArray) (a3 : Int) (l4 : List Int), (Lit.int .i64 a0).wf = true → (Lit.int .i64 a1).wf = true → a2.size ≤ 140737488351232 → (Lit.int .i64 a3).wf = true → l4.length ≤ maxLen → l4.length * 8 ≤ 140737488351232 → (∀ x ∈ l4, (Lit.int .i64 x).wf = true) → ∃ k, federationlaw2_KeyCut.f k a0 a1 a2 a3 l4 = some true
theorem federationlaw2_KeyCut.walk (P : federationlaw2_KeyCut.Pure) (a0 : Int) (a1 : Int) (a2 : ByteArray) (a3 : Int) (a4 : Option Addr) (len4 cap4 : Nat) (z4 : List Int) (w : World) (w0 : (Lit.int .i64 a0).wf = true) (w1 : (Lit.int .i64 a1).wf = true) (w2 : a2.size ≤ 140737488351232) (w3 : (Lit.int .i64 a3).wf = true) (w4 : (a4 = none ∧ len4 = 0 ∧ cap4 = 0 ∧ z4 = []) ∨ ∃ x, a4 = some x ∧ len4 ≤ cap4 ∧ cap4 ≤ maxLen ∧ z4.length = cap4 ∧ (∀ i, i < z4.length → w.cell? (x.add i) = some (.int .i64 (z4.getD i 0))) ∧ ∀ n ∈ z4, (Lit.int .i64 n).wf = true) (y4 : len4 * 8 ≤ 140737488351232) :
    Calls Try.prog 10 #[.int .i64 a0, .int .i64 a1, .string a2, .int .i64 a3, .slice a4 len4 cap4] w fun e w' => e = .returned (.bool true) ∧ Below w.heap.size w w' := by
  obtain ⟨l4, rfl, hr4, hm4, hw4, hc4⟩ := ReadsInt.ofRowC w4
  obtain ⟨k, h⟩ := P a0 a1 a2 a3 l4 w0 w1 w2 w3 hm4 y4 hw4
  refine (federationlaw2_KeyCut.calls k a0 a1 a2 a3 _ _ l4 true w (Kd.C_of_reads (d := (0 : Int)) (h1 := fun _ => rfl) hr4) hc4 h).mono ?_
  rintro e w' ⟨rfl, hd⟩
  exact ⟨rfl, hd⟩
end Go.Proofs.Ytjacflmgbmfhcaa.K
namespace Go.Proofs.Ytjacflmgbmfhcaa.K
open Go.RowKit Go.Proofs.YtjacflmgbmfhcaaW.PrintWords Go.Proofs.YtjacflmgbmfhcaaW.PrintLast Go.Proofs.YtjacflmgbmfhcaaW.PrintMore
attribute [local go_sem] max2_int min2_int max_two min_two max_three min_three max_four min_four
attribute [local go_sem high] own_gtr own_leq own_geq own_cell_set Option.map_some fld24_3
set_option linter.unusedVariables false
set_option linter.unusedSimpArgs false
def p256 (n : Nat) : Int := (256 : Int) ^ n
theorem p256_pos (n : Nat) : 0 < p256 n := Int.pow_pos (by decide)
theorem p256_zero : p256 0 = 1 := rfl
theorem p256_succ (n : Nat) : p256 (n + 1) = p256 n * 256 := by unfold p256; rw [Int.pow_succ]
def be (n : Int) : Nat → List Int
  | 0 => []
  | k + 1 => (n / p256 k) % 256 :: be n k
theorem be_len (n : Int) : ∀ k, (be n k).length = k
  | 0 => rfl
  | k + 1 => by simp [be, be_len n k]
def isB (l : List Int) : Prop := ∀ x ∈ l, 0 ≤ x ∧ x < 256
theorem isB_nil : isB [] := fun _ h => by cases h
theorem isB_cons {x : Int} {l : List Int} (h : 0 ≤ x ∧ x < 256) (hl : isB l) : isB (x :: l) := by
  intro y hy
  rcases List.mem_cons.1 hy with rfl | hy
  · exact h
  · exact hl _ hy
theorem isB_tail {x : Int} {l : List Int} (h : isB (x :: l)) : isB l := fun y hy => h y (List.mem_cons_of_mem _ hy)
theorem isB_head {x : Int} {l : List Int} (h : isB (x :: l)) : 0 ≤ x ∧ x < 256 := h x List.mem_cons_self
theorem isB_append {l m : List Int} (h : isB l) (k : isB m) : isB (l ++ m) := by
  intro y hy
  rcases List.mem_append.1 hy with hy | hy
  · exact h y hy
  · exact k y hy
theorem isB_take {l : List Int} (h : isB l) (n : Nat) : isB (l.take n) := fun y hy => h y (List.mem_of_mem_take hy)
theorem be_isB (n : Int) : ∀ k, isB (be n k)
  | 0 => isB_nil
  | k + 1 => isB_cons ⟨Int.emod_nonneg _ (by decide), Int.emod_lt_of_pos _ (by decide)⟩ (be_isB n k)
theorem be_add (n m : Int) : ∀ k j, be (n + m * (p256 k * p256 j)) k = be n k
  | 0, _ => rfl
  | k + 1, j => by
    have h := be_add n m k (j + 1)
    have e : p256 (k + 1) * p256 j = p256 k * p256 (j + 1) := by rw [p256_succ, p256_succ, Int.mul_assoc, Int.mul_comm 256]
    simp only [be]
    rw [e, h]
    have d : (n + m * (p256 k * p256 (j + 1))) / p256 k = n / p256 k + m * p256 (j + 1) := by
      rw [show n + m * (p256 k * p256 (j + 1)) = n + p256 k * (m * p256 (j + 1)) by rw [← Int.mul_assoc, Int.mul_comm m, Int.mul_assoc], Int.add_mul_ediv_left _ _ (by have := p256_pos k; omega)]
    rw [d, p256_succ, ← Int.mul_assoc]
    congr 1
    omega
def num256 (l : List Int) : Int := l.foldl (fun a b => a * 256 + b) 0
theorem foldl256 : ∀ (l : List Int) (a : Int), l.foldl (fun a b => a * 256 + b) a = a * p256 l.length + num256 l
  | [], a => by simp [num256, p256_zero]
  | x :: l, a => by
    unfold num256
    simp only [List.foldl_cons, List.length_cons]
    rw [foldl256 l (a * 256 + x), foldl256 l (0 * 256 + x), p256_succ, Int.add_mul, Int.mul_assoc, Int.mul_comm 256, Int.zero_mul, Int.zero_add, Int.add_assoc]
theorem num256_cons (x : Int) (l : List Int) : num256 (x :: l) = x * p256 l.length + num256 l := by
  have := foldl256 l (0 * 256 + x)
  rw [Int.zero_mul, Int.zero_add] at this
  unfold num256
  simp only [List.foldl_cons]
  rw [Int.zero_mul, Int.zero_add, this]
  rfl
theorem num256_be (n : Int) : ∀ k, num256 (be n k) = n % p256 k
  | 0 => by simp [be, num256, p256_zero, Int.emod_one]
  | k + 1 => by
    simp only [be]
    rw [num256_cons, be_len, num256_be n k, p256_succ]
    have h := p256_pos k
    have h1 := Int.emod_lt_of_pos n h
    have h2 := Int.emod_nonneg n (show p256 k ≠ 0 by omega)
    have h3 := Int.mul_ediv_add_emod n (p256 k)
    have h4 := Int.mul_ediv_add_emod (n / p256 k) 256
    have h5 := Int.emod_lt_of_pos (n / p256 k) (show (0 : Int) < 256 by decide)
    have h6 := Int.emod_nonneg (n / p256 k) (show (256 : Int) ≠ 0 by decide)
    generalize n / p256 k % 256 = b at *
    have h7 : b * p256 k ≤ 255 * p256 k := Int.mul_le_mul_of_nonneg_right (by omega) (Int.le_of_lt h)
    have h8 : 0 ≤ b * p256 k := Int.mul_nonneg h6 (Int.le_of_lt h)
    refine (((Int.ediv_emod_unique (a := n) (r := b * p256 k + n % p256 k) (q := n / p256 k / 256) (b := p256 k * 256) (by omega)).2 ⟨?_, by omega, by omega⟩).2).symm
    have h9 : p256 k * 256 * (n / p256 k / 256) = p256 k * (256 * (n / p256 k / 256)) := Int.mul_assoc _ _ _
    have h10 : p256 k * (n / p256 k) = p256 k * (256 * (n / p256 k / 256)) + b * p256 k := by
      rw [Int.mul_comm b, ← Int.mul_add, h4]
    omega
theorem shr8 (n : Int) (j : Nat) (h : j ≤ 8) : shr .i64 n ((8 * j : Nat) : Int) = n / p256 j := by
  have hb : IntKind.i64.bits = 64 := rfl
  unfold shr p256
  rw [hb, Int.toNat_natCast, Nat.min_eq_left (by omega), Int.pow_mul]
  rfl
theorem key_number_l0 (n : Int) : ∀ (j k : Nat) (acc : List Int), j < k → j ≤ 8 → acc.length + j ≤ 100 → key_number.l0 k n acc (8 * (j : Int) - 8) = some (acc ++ be n j)
  | 0, k, acc, hk, hj, ha => by
    obtain ⟨k, rfl⟩ : ∃ m, k = m + 1 := ⟨k - 1, by omega⟩
    simp only [key_number.l0]; rw [if_neg (by omega), be, List.append_nil]
  | j + 1, k, acc, hk, hj, ha => by
    obtain ⟨k, rfl⟩ : ∃ m, k = m + 1 := ⟨k - 1, by omega⟩
    have e : 8 * ((j + 1 : Nat) : Int) - 8 = ((8 * j : Nat) : Int) := by omega
    simp only [key_number.l0]
    rw [e, if_pos (by omega), if_pos (by omega), if_pos (by omega), shr8 n j (by omega), wrap64_of (by omega) (by omega)]
    have := key_number_l0 n j k (acc ++ [n / p256 j % 256]) (by omega) (by omega) (by
      simp only [List.length_append, List.length_singleton]; omega)
    rw [show ((8 * j : Nat) : Int) - 8 = 8 * (j : Int) - 8 by omega, this, be, List.append_assoc]
    rfl
theorem key_number_eq (n : Int) (j k : Nat) (hk : j < k) (h1 : 1 ≤ j) (hj : j ≤ 8) : key_number.f k n (j : Int) = some (be n j) := by
  unfold key_number.f
  rw [wrap64_of (x := (j : Int) - 1) (by omega) (by omega), wrap64_of (by omega) (by omega), show 8 * ((j : Int) - 1) = 8 * (j : Int) - 8 by omega, key_number_l0 n j k [] hk hj (by simp; omega)]
  rfl
theorem nat_xor_top (r : Nat) (h : r < 9223372036854775808) : r ^^^ 9223372036854775808 = r + 9223372036854775808 := by
  apply Nat.eq_of_testBit_eq
  intro i
  have e : 9223372036854775808 = 2 ^ 63 := by decide
  rw [Nat.testBit_xor, e, Nat.add_comm, Nat.testBit_two_pow]
  by_cases c : i = 63
  · subst c
    rw [Nat.testBit_two_pow_add_eq]
    simp
  · by_cases c2 : i < 63
    · rw [Nat.testBit_two_pow_add_gt c2]
      simp [Ne.symm c]
    · have h1 : r.testBit i = false := Nat.testBit_lt_two_pow (Nat.lt_of_lt_of_le h (by rw [e]; exact Nat.pow_le_pow_right (by decide) (by omega)))
      have h2 : (2 ^ 63 + r).testBit i = false := Nat.testBit_lt_two_pow (Nat.lt_of_lt_of_le (m := 2 ^ 64) (by omega) (Nat.pow_le_pow_right (by decide) (by omega)))
      rw [h1, h2]
      simp [Ne.symm c]
theorem nat_xor_top' (r : Nat) (h : r < 18446744073709551616) : r ^^^ 9223372036854775808 = (r + 9223372036854775808) % 18446744073709551616 := by
  by_cases c : r < 9223372036854775808
  · rw [nat_xor_top r c]; omega
  · obtain ⟨q, rfl⟩ : ∃ q, r = q + 9223372036854775808 := ⟨r - 9223372036854775808, by omega⟩
    rw [← nat_xor_top q (by omega), Nat.xor_assoc, Nat.xor_self, Nat.xor_zero]
    rw [nat_xor_top q (by omega)]
    omega
theorem toNat_ofInt (a : Int) : ((BitVec.ofInt 64 a).toNat : Int) = a % 18446744073709551616 := by
  rw [BitVec.toNat_ofInt]
  have : (0 : Int) ≤ a % ((2 ^ 64 : Nat) : Int) := Int.emod_nonneg _ (by decide)
  rw [Int.toNat_of_nonneg this]
  rfl
theorem i64_wrap (n : Int) : IntKind.i64.wrap n = wrap64 n := by
  simp [IntKind.wrap, IntKind.bits, IntKind.signed, wrap64]
  split <;> omega
theorem xorMin (a : Int) : Go.bits .xor .i64 a (-9223372036854775808) = wrap64 (a + 9223372036854775808) := by
  have h1 := toNat_ofInt a
  have h2 : (BitVec.ofInt 64 (-9223372036854775808)).toNat = 9223372036854775808 := by decide +kernel
  have h3 : (BitVec.ofInt 64 a).toNat < 18446744073709551616 := (BitVec.ofInt 64 a).isLt
  have hx := nat_xor_top' _ h3
  show IntKind.i64.wrap ((BitVec.ofInt 64 a ^^^ BitVec.ofInt 64 (-9223372036854775808)).toNat : Int) = _
  rw [BitVec.toNat_xor, h2, hx, i64_wrap]
  generalize (BitVec.ofInt 64 a).toNat = r at *
  unfold wrap64
  omega
theorem be_eq_of_emod {a b : Int} {k : Nat} (h : a % p256 k = b % p256 k) : be a k = be b k := by
  have h1 := Int.mul_ediv_add_emod a (p256 k)
  have h2 := Int.mul_ediv_add_emod b (p256 k)
  have := be_add b (a / p256 k - b / p256 k) k 0
  rw [p256_zero, Int.mul_one, Int.sub_mul, Int.mul_comm (a / p256 k), Int.mul_comm (b / p256 k)] at this
  rw [show b + (p256 k * (a / p256 k) - p256 k * (b / p256 k)) = a by omega] at this
  exact this
theorem p256_8 : p256 8 = 18446744073709551616 := by decide
theorem p256_4 : p256 4 = 4294967296 := by decide
theorem key_signed_eq (k : Nat) (a : Int) (hk : 9 < k) : key_signed.f k a = some (be (a + 9223372036854775808) 8) := by
  unfold key_signed.f
  have := key_number_eq (wrap64 (a + 9223372036854775808)) 8 k (by omega) (by decide) (by decide)
  rw [xorMin, show (8 : Int) = ((8 : Nat) : Int) from rfl, this, Option.bind_some]
  congr 1
  apply be_eq_of_emod
  rw [p256_8]; unfold wrap64; omega
end Go.Proofs.Ytjacflmgbmfhcaa.K
namespace Go.Proofs.Ytjacflmgbmfhcaa.K
open Go.RowKit Go.Proofs.YtjacflmgbmfhcaaW.PrintWords Go.Proofs.YtjacflmgbmfhcaaW.PrintLast Go.Proofs.YtjacflmgbmfhcaaW.PrintMore
attribute [local go_sem] max2_int min2_int max_two min_two max_three min_three max_four min_four
attribute [local go_sem high] own_gtr own_leq own_geq own_cell_set Option.map_some fld24_3
set_option linter.unusedVariables false
set_option linter.unusedSimpArgs false
def okB (st : ByteArray) : Bool := st.data.toList.all fun b => decide (32 ≤ b.toNat ∧ b.toNat ≤ 126)
theorem bt_data (st : ByteArray) (i : Nat) (h : i < st.data.size) : bt st (i : Int) = ((st.data[i]).toNat : Int) := by
  rw [← bt_at st (i : Int) (by simpa using h)]
  rfl
theorem all_drop (st : ByteArray) (i : Nat) (h : i < st.data.size) : (st.data.toList.drop i).all (fun b => decide (32 ≤ b.toNat ∧ b.toNat ≤ 126)) = (decide (32 ≤ (st.data[i]).toNat ∧ (st.data[i]).toNat ≤ 126) && (st.data.toList.drop (i + 1)).all fun b => decide (32 ≤ b.toNat ∧ b.toNat ≤ 126)) := by
  rw [List.drop_eq_getElem_cons (by simpa using h), List.all_cons]
  simp
theorem val_printable_l0 (st : ByteArray) (hs : st.data.size ≤ 140737488351232) : ∀ (d k i : Nat), d < k → i + d = st.data.size → val_printable.l0 k st (i : Int) = some ((st.data.toList.drop i).all fun b => decide (32 ≤ b.toNat ∧ b.toNat ≤ 126))
  | 0, k, i, hk, h => by
    obtain ⟨k, rfl⟩ : ∃ m, k = m + 1 := ⟨k - 1, by omega⟩
    simp only [val_printable.l0]; rw [if_neg (by have hz : st.size = st.data.size := rfl; omega), List.drop_of_length_le (by have hz : st.data.toList.length = st.data.size := rfl; omega)]; rfl
  | d + 1, k, i, hk, h => by
    obtain ⟨k, rfl⟩ : ∃ m, k = m + 1 := ⟨k - 1, by omega⟩
    simp only [val_printable.l0]
    rw [if_pos (by have hz : st.size = st.data.size := rfl; omega), if_pos (by omega), bt_data st i (by omega), all_drop st i (by omega)]
    by_cases h1 : ((st.data[i]'(by omega)).toNat : Int) < 32
    · rw [if_pos h1, decide_eq_false (by omega)]; rfl
    · rw [if_neg h1]
      by_cases h2 : ((st.data[i]'(by omega)).toNat : Int) > 126
      · rw [if_pos h2, decide_eq_false (by omega)]; rfl
      · rw [if_neg h2, decide_eq_true (by omega), wrap64_of (by omega) (by omega), Bool.true_and]
        exact val_printable_l0 st hs d k (i + 1) (by omega) (by omega)
theorem val_printable_eq (st : ByteArray) (k : Nat) (hs : st.data.size ≤ 140737488351232) (hk : st.data.size < k) : val_printable.f k st = some (okB st) := val_printable_l0 st hs st.data.size k 0 hk (by omega)
def noS (st : ByteArray) : Bool := st.toList == ([] : List UInt8)
def rightB (kd n sc : Int) (st : ByteArray) : Bool :=
  if kd = 0 then n == 0 && (sc == 0 && noS st)
  else if kd = 1 then decide (0 ≤ n ∧ n ≤ 1) && (sc == 0 && noS st)
  else if kd = 2 then sc == 0 && noS st
  else if kd = 3 then decide (-1000000000000000 < n ∧ n < 1000000000000000 ∧ 0 ≤ sc ∧ sc ≤ 6 ∧ (sc = 0 ∨ n % 10 ≠ 0)) && noS st
  else if kd = 4 then decide (n = 0 ∧ sc = 0 ∧ st.data.size ≤ 40) && okB st
  else if kd = 5 then decide (n = 0 ∧ sc = 0 ∧ st.data.size ≤ 40)
  else false
theorem val_Right_eq (k : Nat) (kd n sc : Int) (st : ByteArray) (hk : 42 < k) : val_Right.f k kd n sc st = some (rightB kd n sc st) := by
  obtain ⟨k, rfl⟩ : ∃ m, k = m + 1 := ⟨k - 1, by omega⟩
  have hz : (st.size : Int) = (st.data.size : Int) := rfl
  unfold val_Right.f rightB
  by_cases h0 : kd = 0
  · rw [if_pos h0, if_pos h0]; rfl
  rw [if_neg h0, if_neg h0]
  by_cases h1 : kd = 1
  · rw [if_pos h1, if_pos h1]
    congr 2
    rw [Bool.eq_iff_iff]; simp only [beq_iff_eq, decide_eq_true_eq]; unfold mn mx
    constructor
    · intro h; split at h <;> (try split at h) <;> omega
    · intro h; split <;> (try split) <;> omega
  rw [if_neg h1, if_neg h1]
  by_cases h2 : kd = 2
  · rw [if_pos h2, if_pos h2]; rfl
  rw [if_neg h2, if_neg h2]
  by_cases h3 : kd = 3
  · rw [if_pos h3, if_pos h3]
    have ht := tmod10 n
    by_cases a1 : n ≤ -1000000000000000
    · rw [if_pos a1, decide_eq_false (by omega)]; rfl
    rw [if_neg a1]
    by_cases a2 : n ≥ 1000000000000000
    · rw [if_pos a2, decide_eq_false (by omega)]; rfl
    rw [if_neg a2]
    have hm : (sc == mn (mx sc 0) 6) = decide (0 ≤ sc ∧ sc ≤ 6) := by
      rw [Bool.eq_iff_iff]; simp only [beq_iff_eq, decide_eq_true_eq]; unfold mn mx
      constructor
      · intro h; split at h <;> (try split at h) <;> omega
      · intro h; split <;> (try split) <;> omega
    by_cases a3 : sc > 0
    · rw [if_pos a3]
      by_cases a4 : Int.tmod n 10 = 0
      · rw [if_pos a4, decide_eq_false (by have := ht.1 a4; omega)]; rfl
      · rw [if_neg a4, hm]
        have : n % 10 ≠ 0 := fun e => a4 (ht.2 e)
        by_cases a5 : sc ≤ 6
        · rw [decide_eq_true (by omega), decide_eq_true (by omega)]; rfl
        · rw [decide_eq_false (by omega), decide_eq_false (by omega)]; rfl
    · rw [if_neg a3, hm]
      by_cases a5 : 0 ≤ sc
      · rw [decide_eq_true (by omega), decide_eq_true (by omega)]; rfl
      · rw [decide_eq_false (by omega), decide_eq_false (by omega)]; rfl
  rw [if_neg h3, if_neg h3]
  by_cases h4 : kd = 4
  · rw [if_pos h4, if_pos h4]
    subst h4
    simp only [val_Right.j0, beq_self_eq_true, if_true, Bool.true_and]
    by_cases a1 : (st.size : Int) > 40
    · rw [if_pos a1, decide_eq_false (by omega)]; rfl
    · rw [if_neg a1, val_printable_eq st k (by omega) (by omega)]
      simp only [Option.bind_some]
      cases hb : okB st with
      | false => simp
      | true =>
        simp only [if_true, Bool.and_true]
        congr 1
        rw [Bool.eq_iff_iff]; simp only [Bool.and_eq_true, beq_iff_eq, decide_eq_true_eq]; omega
  rw [if_neg h4, if_neg h4]
  by_cases h5 : kd = 5
  · rw [if_pos h5]
    subst h5
    simp only [val_Right.j0, beq_self_eq_true, if_true, Bool.true_and]
    by_cases a1 : (st.size : Int) > 40
    · rw [if_pos a1, decide_eq_false (by omega)]
    · rw [if_neg a1, if_neg (by decide)]
      congr 1
      rw [Bool.eq_iff_iff]; simp only [Bool.and_eq_true, beq_iff_eq, decide_eq_true_eq]; omega
  · rw [if_neg h5]
    simp only [val_Right.j0, show (kd == 5) = false from by simpa using h5]
    simp
end Go.Proofs.Ytjacflmgbmfhcaa.K
namespace Go.Proofs.Ytjacflmgbmfhcaa.K
open Go.RowKit Go.Proofs.YtjacflmgbmfhcaaW.PrintWords Go.Proofs.YtjacflmgbmfhcaaW.PrintLast Go.Proofs.YtjacflmgbmfhcaaW.PrintMore
attribute [local go_sem] max2_int min2_int max_two min_two max_three min_three max_four min_four
attribute [local go_sem high] own_gtr own_leq own_geq own_cell_set Option.map_some fld24_3
set_option linter.unusedVariables false
set_option linter.unusedSimpArgs false
theorem son_toList (L : List Int) : (strOfNums L).toList = L.map fun n => UInt8.ofNat n.toNat := by
  rw [Lib.toList_data]; rfl
theorem son_size (L : List Int) : (strOfNums L).size = L.length := by simp [strOfNums, ByteArray.size]
theorem son_append (L M : List Int) : strOfNums L ++ strOfNums M = strOfNums (L ++ M) := by
  apply ByteArray.ext
  simp [strOfNums, ByteArray.data_append]
theorem u8_back {x : Int} (h : 0 ≤ x ∧ x < 256) : ((UInt8.ofNat x.toNat).toNat : Int) = x := by
  rw [UInt8.toNat_ofNat']
  omega
theorem byteL_isB (s : ByteArray) : isB (byteL s) := by
  intro x hx
  obtain ⟨b, _, rfl⟩ := List.mem_map.1 hx
  have := b.toNat_lt
  omega
theorem byteL_len (s : ByteArray) : (byteL s).length = s.size := by unfold byteL; rw [List.length_map]; rfl
theorem son_byteL (s : ByteArray) : strOfNums (byteL s) = s := by
  apply ByteArray.ext
  unfold strOfNums byteL
  simp only [List.map_map]
  have : (s.data.toList.map ((fun n : Int => UInt8.ofNat n.toNat) ∘ fun b : UInt8 => (b.toNat : Int))) = s.data.toList := by
    conv => rhs; rw [← List.map_id s.data.toList]
    apply List.map_congr_left
    intro x _
    simp
  rw [this]
theorem toList_inj {s t : ByteArray} : s.toList = t.toList ↔ s = t := by
  constructor
  · intro h
    rw [Lib.toList_data, Lib.toList_data] at h
    apply ByteArray.ext
    exact Array.toList_inj.1 h
  · rintro rfl; rfl
theorem son_nil (L : List Int) : (strOfNums L).toList = ([] : List UInt8) ↔ L = [] := by
  rw [son_toList, List.map_eq_nil_iff]
theorem son_drop (L : List Int) (n : Nat) : (strOfNums L).extract n (strOfNums L).size = strOfNums (L.drop n) := by
  apply ByteArray.ext
  apply Array.toList_inj.1
  rw [Lib.extract_data, son_size, strOfNums_data, strOfNums_data, ← List.map_drop, List.take_of_length_le (by simp)]
theorem son_take (L : List Int) (n : Nat) : (strOfNums L).extract 0 n = strOfNums (L.take n) := by
  apply ByteArray.ext
  apply Array.toList_inj.1
  rw [Lib.extract_data, strOfNums_data, strOfNums_data, List.drop_zero, Nat.sub_zero, ← List.map_take]
theorem bt_son {L : List Int} (h : isB L) (i : Nat) (hi : i < L.length) : bt (strOfNums L) (i : Int) = L[i] := by
  have hs : i < (strOfNums L).data.size := by have := son_size L; have h2 : (strOfNums L).size = (strOfNums L).data.size := rfl; omega
  rw [bt_data _ i hs]
  have : (strOfNums L).data[i] = UInt8.ofNat (L[i]).toNat := by simp [strOfNums]
  rw [this]
  exact u8_back (h _ (List.getElem_mem hi))
end Go.Proofs.Ytjacflmgbmfhcaa.K
namespace Go.Proofs.Ytjacflmgbmfhcaa.K
open Go.RowKit Go.Proofs.YtjacflmgbmfhcaaW.PrintWords Go.Proofs.YtjacflmgbmfhcaaW.PrintLast Go.Proofs.YtjacflmgbmfhcaaW.PrintMore
attribute [local go_sem] max2_int min2_int max_two min_two max_three min_three max_four min_four
attribute [local go_sem high] own_gtr own_leq own_geq own_cell_set Option.map_some fld24_3
set_option linter.unusedVariables false
set_option linter.unusedSimpArgs false
theorem p10_six_sub (s : Nat) (h : s ≤ 6) : p10 s * p10 (6 - s) = 1000000 := by
  rw [← p10_add, show s + (6 - s) = 6 by omega, p10_six]
theorem tdiv_pows (s : Nat) (hs : s ≤ 6) : Int.tdiv (p10 6) (p10 s) = p10 (6 - s) := by
  have h := p10_six_sub s hs
  rw [p10_six, ← h, Int.mul_comm, Int.mul_tdiv_cancel _ (by have := p10_pos s; omega)]
end Go.Proofs.Ytjacflmgbmfhcaa.K
namespace Go.Proofs.Ytjacflmgbmfhcaa.K
open Go.RowKit Go.Proofs.YtjacflmgbmfhcaaW.PrintWords Go.Proofs.YtjacflmgbmfhcaaW.PrintLast Go.Proofs.YtjacflmgbmfhcaaW.PrintMore
attribute [local go_sem] max2_int min2_int max_two min_two max_three min_three max_four min_four
attribute [local go_sem high] own_gtr own_leq own_geq own_cell_set Option.map_some fld24_3
set_option linter.unusedVariables false
set_option linter.unusedSimpArgs false
def I64 (x : Int) : Prop := -9223372036854775808 ≤ x ∧ x ≤ 9223372036854775807
end Go.Proofs.Ytjacflmgbmfhcaa.K
namespace Go.Proofs.Ytjacflmgbmfhcaa.K
open Go.RowKit Go.Proofs.YtjacflmgbmfhcaaW.PrintWords Go.Proofs.YtjacflmgbmfhcaaW.PrintLast Go.Proofs.YtjacflmgbmfhcaaW.PrintMore
attribute [local go_sem] max2_int min2_int max_two min_two max_three min_three max_four min_four
attribute [local go_sem high] own_gtr own_leq own_geq own_cell_set Option.map_some fld24_3
set_option linter.unusedVariables false
set_option linter.unusedSimpArgs false
structure RD (n : Int) (s : Nat) : Prop where
  lo : -1000000000000000 < n
  hi : n < 1000000000000000
  sc : s ≤ 6
  nm : s = 0 ∨ n % 10 ≠ 0
theorem ediv_small {n p : Int} (hp : 0 < p) (h0 : -1000000000000000 < n) (h1 : n < 1000000000000000) : -1000000000000000 ≤ n / p ∧ n / p ≤ 1000000000000000 := by
  have e := Int.mul_ediv_add_emod n p
  have e1 := Int.emod_lt_of_pos n hp
  have e2 := Int.emod_nonneg n (show p ≠ 0 by omega)
  have e3 := Int.natAbs_ediv_le_natAbs n p
  omega
structure RV (kd n : Int) (s : Nat) : Prop where
  i : I64 n
  d : kd = 3 → RD n s
end Go.Proofs.Ytjacflmgbmfhcaa.K
namespace Go.Proofs.Ytjacflmgbmfhcaa.K
open Go.RowKit Go.Proofs.YtjacflmgbmfhcaaW.PrintWords Go.Proofs.YtjacflmgbmfhcaaW.PrintLast Go.Proofs.YtjacflmgbmfhcaaW.PrintMore
attribute [local go_sem] max2_int min2_int max_two min_two max_three min_three max_four min_four
attribute [local go_sem high] own_gtr own_leq own_geq own_cell_set Option.map_some fld24_3
set_option linter.unusedVariables false
set_option linter.unusedSimpArgs false
theorem within_eq (a n : Int) (ha : I64 a) (h0 : 0 < n) (h1 : n ≤ 4611686018427387904) : federationlaw1_within.f a n = some (a % n) := by
  unfold federationlaw1_within.f I64 at *
  rw [if_neg (by omega)]
  have e1 := Int.mul_tdiv_add_tmod a n
  have e2 := Int.mul_ediv_add_emod a n
  have e3 := Int.emod_lt_of_pos a h0
  have e4 := Int.emod_nonneg a (show n ≠ 0 by omega)
  have e5 := Int.tmod_lt_of_pos a h0
  have e6 := Int.tmod_lt_of_pos (-a) h0
  rw [Int.neg_tmod] at e6
  by_cases c : a.tmod n < 0
  · rw [if_pos c, wrap64_of (by omega) (by omega)]
    have := ((Int.ediv_emod_unique (a := a) (r := a.tmod n + n) (q := a.tdiv n - 1) h0).2 ⟨by rw [Int.mul_sub, Int.mul_one]; omega, by omega, by omega⟩).2
    rw [this]
  · rw [if_neg c]
    have := ((Int.ediv_emod_unique (a := a) (r := a.tmod n) (q := a.tdiv n) h0).2 ⟨by omega, by omega, by omega⟩).2
    rw [this]
theorem emod_bd (a n : Int) (h0 : 0 < n) : 0 ≤ a % n ∧ a % n < n := ⟨Int.emod_nonneg a (by omega), Int.emod_lt_of_pos a h0⟩
theorem RV_right {kd n : Int} {s : Nat} {st : ByteArray} (hn : I64 n) (h : rightB kd n (s : Int) st = true) : RV kd n s := by
  refine ⟨hn, fun e => ?_⟩
  subst e
  unfold rightB at h
  rw [if_neg (by decide), if_neg (by decide), if_neg (by decide), if_pos rfl, Bool.and_eq_true, decide_eq_true_eq] at h
  obtain ⟨⟨a, b, c, d, e⟩, _⟩ := h
  exact ⟨a, b, by omega, by omega⟩
theorem noS_empty : noS (⟨#[]⟩ : ByteArray) = true := by decide +kernel
theorem right_RD {n : Int} {s : Nat} (h : RD n s) : rightB 3 n (s : Int) (⟨#[]⟩ : ByteArray) = true := by
  unfold rightB
  rw [if_neg (by decide), if_neg (by decide), if_neg (by decide), if_pos rfl, noS_empty, Bool.and_true, decide_eq_true_eq]
  exact ⟨h.lo, h.hi, by omega, by have := h.sc; omega, by have := h.nm; omega⟩
theorem RD_red (n : Int) (s : Nat) (h0 : -1000000000000000 < n) (h1 : n < 1000000000000000) (hs : s ≤ 6) : RD (red n s).1 (red n s).2 := by
  have a := red_abs s n
  have b := red_scale s n
  have c := red_done s n
  exact ⟨by omega, by omega, by omega, c⟩
theorem mkText_size (st : ByteArray) : (mkText st).data.size ≤ 40 := by
  unfold mkText strOfNums
  simp [conv8L_length]
  omega
theorem mkText_ok (st : ByteArray) : okB (mkText st) = true := by
  unfold okB mkText strOfNums
  simp only [List.all_eq_true, decide_eq_true_eq, List.map_toArray, List.mem_map, conv8L]
  rintro b ⟨x, hx, rfl⟩
  obtain ⟨c, _, rfl⟩ := List.mem_map.1 (List.mem_of_mem_take hx)
  unfold conv8
  have h1 := emod_bd (c.toNat : Int) 95 (by decide)
  generalize (c.toNat : Int) % 95 = z at *
  have : ((32 + z).toNat % 256) = (32 + z).toNat := Nat.mod_eq_of_lt (by omega)
  simp only [UInt8.toNat_ofNat']
  omega
theorem extract_size (st : ByteArray) (j : Nat) : (st.extract 0 j).data.size = min j st.data.size := by
  rw [← Array.length_toList, Lib.extract_data]
  simp
structure Made (kd n : Int) (s : Nat) (st : ByteArray) : Prop where
  r : rightB kd n (s : Int) st = true
  v : RV kd n s
  sz : st.data.size ≤ 40
  k0 : 0 ≤ kd
  k5 : kd ≤ 5
  z : kd ≠ 3 → s = 0
theorem rd6 (a b c d e f : Int) (i : Int) (h0 : 0 ≤ i) (h1 : i < 6) : rd [a, b, c, d, e, f] i = a ∨ rd [a, b, c, d, e, f] i = b ∨ rd [a, b, c, d, e, f] i = c ∨ rd [a, b, c, d, e, f] i = d ∨ rd [a, b, c, d, e, f] i = e ∨ rd [a, b, c, d, e, f] i = f := by
  have : i = 0 ∨ i = 1 ∨ i = 2 ∨ i = 3 ∨ i = 4 ∨ i = 5 := by omega
  rcases this with rfl | rfl | rfl | rfl | rfl | rfl
  · exact Or.inl rfl
  · exact Or.inr (Or.inl rfl)
  · exact Or.inr (Or.inr (Or.inl rfl))
  · exact Or.inr (Or.inr (Or.inr (Or.inl rfl)))
  · exact Or.inr (Or.inr (Or.inr (Or.inr (Or.inl rfl))))
  · exact Or.inr (Or.inr (Or.inr (Or.inr (Or.inr rfl))))
theorem rd8 (a b c d e f g h : Int) (P : Int → Prop) (pa : P a) (pb : P b) (pc : P c) (pd : P d) (pe : P e) (pf : P f) (pg : P g) (ph : P h) (i : Int) (h0 : 0 ≤ i) (h1 : i < 8) : P (rd [a, b, c, d, e, f, g, h] i) := by
  have : i = 0 ∨ i = 1 ∨ i = 2 ∨ i = 3 ∨ i = 4 ∨ i = 5 ∨ i = 6 ∨ i = 7 := by omega
  rcases this with rfl | rfl | rfl | rfl | rfl | rfl | rfl | rfl
  · exact pa
  · exact pb
  · exact pc
  · exact pd
  · exact pe
  · exact pf
  · exact pg
  · exact ph
theorem I64_tdiv (a b : Int) (ha : I64 a) (hb : 2 ≤ b) : I64 (wrap64 (a.tdiv b)) ∧ wrap64 (a.tdiv b) = a.tdiv b := by
  have h := Int.natAbs_tdiv_le_natAbs a b
  have h2 : (a.tdiv b).natAbs ≤ 4611686018427387904 := by
    rw [Int.natAbs_tdiv]
    have h1 : a.natAbs ≤ 9223372036854775808 := by unfold I64 at ha; omega
    exact Nat.le_trans (Nat.div_le_div_left (show 2 ≤ b.natAbs by omega) (by decide)) (by have := Nat.div_le_div_right (c := 2) h1; simpa using this)
  have e : wrap64 (a.tdiv b) = a.tdiv b := wrap64_of (by omega) (by omega)
  rw [e]
  exact ⟨⟨by omega, by omega⟩, rfl⟩
theorem Make_eq (kind n : Int) (st : ByteArray) (hk : I64 kind) (hn : I64 n) (hs : st.size ≤ 140737488351232) :
    ∃ n' s' st', (∀ k, 60 < k → federationlaw1_Make.f k kind n st = some (kind % 6, n', ((s' : Nat) : Int), st')) ∧ Made (kind % 6) n' s' st' := by
  have hk6 := within_eq kind 6 hk (by decide) (by decide)
  have hb := emod_bd kind 6 (by decide)
  have hd := I64_tdiv kind 6 hk (by decide)
  have hd2 := I64_tdiv kind 36 hk (by decide)
  have h0 : I64 0 := ⟨by decide, by decide⟩
  have em : (⟨#[]⟩ : ByteArray).data.size ≤ 40 := by decide
  have c : kind % 6 = 0 ∨ kind % 6 = 1 ∨ kind % 6 = 2 ∨ kind % 6 = 3 ∨ kind % 6 = 4 ∨ kind % 6 = 5 := by omega
  rcases c with c | c | c | c | c | c
  · have hr : rightB (kind % 6) 0 ((0 : Nat) : Int) (⟨#[]⟩ : ByteArray) = true := by rw [c]; decide +kernel
    refine ⟨0, 0, _, fun k _ => ?_, ⟨hr, RV_right h0 hr, em, hb.1, by omega, fun _ => rfl⟩⟩
    unfold federationlaw1_Make.f federationlaw1_Make_p.f
    rw [hk6, c, if_neg (by decide), Option.bind_some, if_neg (by decide), if_neg (by decide), if_neg (by decide), if_neg (by decide), if_neg (by decide)]
    rfl
  · have hw := within_eq n 2 hn (by decide) (by decide)
    have hm := emod_bd n 2 (by decide)
    have hr : rightB (kind % 6) (n % 2) ((0 : Nat) : Int) (⟨#[]⟩ : ByteArray) = true := by
      rw [c]; unfold rightB; rw [if_neg (by decide), if_pos rfl, noS_empty, decide_eq_true (by omega)]; rfl
    refine ⟨n % 2, 0, _, fun k _ => ?_, ⟨hr, RV_right ⟨by omega, by omega⟩ hr, em, hb.1, by omega, fun _ => rfl⟩⟩
    unfold federationlaw1_Make.f federationlaw1_Make_p.f
    rw [hk6, c, if_neg (by decide), Option.bind_some, if_pos rfl, hw, Option.bind_some]
    rfl
  · have hw := within_eq n 100 hn (by decide) (by decide)
    have hm := emod_bd n 100 (by decide)
    have hi := within_eq (wrap64 (Int.tdiv kind 6)) 8 hd.1 (by decide) (by decide)
    have hj := emod_bd (wrap64 (Int.tdiv kind 6)) 8 (by decide)
    generalize hz : wrap64 (Int.tdiv kind 6) % 8 = j at hi hj
    have hrd : I64 (rd [n, 0, 1, -1, 9223372036854775807, -9223372036854775808, wrap64 (n % 100 - 50), 7] j) := by
      rw [wrap64_of (by omega) (by omega)]
      exact rd8 _ _ _ _ _ _ _ _ I64 hn ⟨by decide, by decide⟩ ⟨by decide, by decide⟩ ⟨by decide, by decide⟩ ⟨by decide, by decide⟩ ⟨by decide, by decide⟩ ⟨by omega, by omega⟩ ⟨by decide, by decide⟩ j hj.1 hj.2
    have hr : rightB (kind % 6) (rd [n, 0, 1, -1, 9223372036854775807, -9223372036854775808, wrap64 (n % 100 - 50), 7] j) ((0 : Nat) : Int) (⟨#[]⟩ : ByteArray) = true := by
      rw [c]; unfold rightB; rw [if_neg (by decide), if_neg (by decide), if_pos rfl, noS_empty]; rfl
    refine ⟨_, 0, _, fun k _ => ?_, ⟨hr, RV_right hrd hr, em, hb.1, by omega, fun _ => rfl⟩⟩
    unfold federationlaw1_Make.f federationlaw1_Make_p.f
    rw [hk6, c, if_neg (by decide), Option.bind_some, if_neg (by decide), if_pos rfl, hw, Option.bind_some, Option.bind_some, hi, Option.bind_some, if_pos hj.1, if_pos (by simp; omega)]
    rfl
  · have hw := within_eq n 2000 hn (by decide) (by decide)
    have hm := emod_bd n 2000 (by decide)
    have hw2 := within_eq n 50 hn (by decide) (by decide)
    have hm2 := emod_bd n 50 (by decide)
    have hi := within_eq (wrap64 (Int.tdiv kind 6)) 6 hd.1 (by decide) (by decide)
    have hj := emod_bd (wrap64 (Int.tdiv kind 6)) 6 (by decide)
    have hi2 := within_eq (wrap64 (Int.tdiv kind 36)) 7 hd2.1 (by decide) (by decide)
    have hj2 := emod_bd (wrap64 (Int.tdiv kind 36)) 7 (by decide)
    generalize hz : wrap64 (Int.tdiv kind 6) % 6 = j at hi hj
    generalize hz2 : wrap64 (Int.tdiv kind 36) % 7 = j2 at hi2 hj2
    have ht1 := Int.tmod_lt_of_pos n (show (0 : Int) < 1000000000000000 by decide)
    have ht2 := Int.tmod_lt_of_pos (-n) (show (0 : Int) < 1000000000000000 by decide)
    rw [Int.neg_tmod] at ht2
    have hx : -1000000000000000 < rd [Int.tmod n 1000000000000000, wrap64 (n % 2000 - 1000), 999999999999999, -999999999999999, 1, wrap64 (wrap64 (n % 50 * 1000) - 20000)] j ∧ rd [Int.tmod n 1000000000000000, wrap64 (n % 2000 - 1000), 999999999999999, -999999999999999, 1, wrap64 (wrap64 (n % 50 * 1000) - 20000)] j < 1000000000000000 := by
      have e1 : wrap64 (n % 2000 - 1000) = n % 2000 - 1000 := wrap64_of (by omega) (by omega)
      have e2 : wrap64 (n % 50 * 1000) = n % 50 * 1000 := wrap64_of (by omega) (by omega)
      have e3 : wrap64 (n % 50 * 1000 - 20000) = n % 50 * 1000 - 20000 := wrap64_of (by omega) (by omega)
      rw [e1, e2, e3]
      rcases rd6 (Int.tmod n 1000000000000000) (n % 2000 - 1000) 999999999999999 (-999999999999999) 1 (n % 50 * 1000 - 20000) j hj.1 hj.2 with h | h | h | h | h | h <;> rw [h] <;> omega
    obtain ⟨t, rfl⟩ : ∃ t : Nat, j2 = (t : Int) := ⟨j2.toNat, by omega⟩
    generalize hy : rd [Int.tmod n 1000000000000000, wrap64 (n % 2000 - 1000), 999999999999999, -999999999999999, 1, wrap64 (wrap64 (n % 50 * 1000) - 20000)] j = y at hx
    have hrd := RD_red y t hx.1 hx.2 (by omega)
    have hr := right_RD hrd
    rw [← c] at hr
    refine ⟨(red y t).1, (red y t).2, _, fun k hk => ?_, ⟨hr, RV_right ⟨by have := hrd.lo; omega, by have := hrd.hi; omega⟩ hr, em, hb.1, by omega, fun e => absurd c e⟩⟩
    unfold federationlaw1_Make.f federationlaw1_Make_p.f
    rw [hk6, c, if_neg (by decide), Option.bind_some, if_neg (by decide), if_neg (by decide), if_pos rfl, hw, Option.bind_some, hw2, Option.bind_some, Option.bind_some, hi, Option.bind_some, if_pos hj.1, if_pos (by simp; omega), hi2, Option.bind_some, hy, ref_Norm_eq k t y _ (by omega) (by omega) (by omega) (by omega), Option.bind_some]
  · have hr : rightB (kind % 6) 0 ((0 : Nat) : Int) (mkText st) = true := by
      have h1 := mkText_size st
      have h2 := mkText_ok st
      rw [c]; unfold rightB; rw [if_neg (by decide), if_neg (by decide), if_neg (by decide), if_neg (by decide), if_pos rfl, h2, decide_eq_true (by omega)]; rfl
    refine ⟨0, 0, _, fun k _ => ?_, ⟨hr, RV_right h0 hr, mkText_size st, hb.1, by omega, fun _ => rfl⟩⟩
    unfold federationlaw1_Make.f
    rw [hk6, c, if_pos rfl, if_pos hs]
    rfl
  · have hz : (st.size : Int) = (st.data.size : Int) := rfl
    have hm : mn (st.size : Int) 40 = ((min 40 st.data.size : Nat) : Int) := by unfold mn; split <;> omega
    have hr : rightB (kind % 6) 0 ((0 : Nat) : Int) (st.extract 0 (min 40 st.data.size)) = true := by
      have h1 := extract_size st (min 40 st.data.size)
      rw [c]; unfold rightB; rw [if_neg (by decide), if_neg (by decide), if_neg (by decide), if_neg (by decide), if_neg (by decide), if_pos rfl, decide_eq_true (by omega)]
    refine ⟨0, 0, _, fun k _ => ?_, ⟨hr, RV_right h0 hr, by rw [extract_size]; omega, hb.1, by omega, fun _ => rfl⟩⟩
    unfold federationlaw1_Make.f federationlaw1_Make_p.f
    rw [hk6, c, if_neg (by decide), Option.bind_some, if_neg (by decide), if_neg (by decide), if_neg (by decide), if_neg (by decide), if_pos rfl, hm, if_pos (by omega), if_pos (by omega)]
    rfl
end Go.Proofs.Ytjacflmgbmfhcaa.K
namespace Go.Proofs.Ytjacflmgbmfhcaa.K
open Go.RowKit Go.Proofs.YtjacflmgbmfhcaaW.PrintWords Go.Proofs.YtjacflmgbmfhcaaW.PrintLast Go.Proofs.YtjacflmgbmfhcaaW.PrintMore
attribute [local go_sem] max2_int min2_int max_two min_two max_three min_three max_four min_four
attribute [local go_sem high] own_gtr own_leq own_geq own_cell_set Option.map_some fld24_3
set_option linter.unusedVariables false
set_option linter.unusedSimpArgs false
def escL (xs : List Int) : List Int := xs.flatMap escOne ++ [0, 1]
theorem escAll_eq (s : ByteArray) : escAll s = escL (byteL s) := rfl
theorem escL_nil : escL [] = [0, 1] := rfl
theorem escL_cons (x : Int) (xs : List Int) : escL (x :: xs) = escOne x ++ escL xs := by simp [escL]
theorem escOne_isB {x : Int} (h : 0 ≤ x ∧ x < 256) : isB (escOne x) := by
  unfold escOne
  split
  · exact isB_cons (by omega) (isB_cons (by omega) isB_nil)
  · exact isB_cons h isB_nil
theorem escL_isB : ∀ {xs : List Int}, isB xs → isB (escL xs)
  | [], _ => isB_cons (by omega) (isB_cons (by omega) isB_nil)
  | x :: xs, h => by rw [escL_cons]; exact isB_append (escOne_isB (isB_head h)) (escL_isB (isB_tail h))
theorem escL_len : ∀ xs : List Int, 2 ≤ (escL xs).length ∧ (escL xs).length ≤ 2 * xs.length + 2
  | [] => by simp [escL_nil]
  | x :: xs => by
    have := escL_len xs
    have h := escOne_len x
    rw [escL_cons, List.length_append, List.length_cons]
    omega
def txt : List Int → Option (List Int × Nat)
  | [] => none
  | [_] => none
  | x :: y :: m => if x = 0 then (if y = 255 then (txt m).map (fun p => (0 :: p.1, p.2 + 2)) else if y = 1 then some ([], 2) else none) else (txt (y :: m)).map (fun p => (x :: p.1, p.2 + 1))
theorem txt_cons {x : Int} (h : x ≠ 0) (l : List Int) : txt (x :: l) = (txt l).map (fun p => (x :: p.1, p.2 + 1)) := by
  cases l with
  | nil => rfl
  | cons y m => rw [txt, if_neg h]
theorem txt_esc (more : List Int) : ∀ xs : List Int, txt (escL xs ++ more) = some (xs, (escL xs).length)
  | [] => by
    rw [escL_nil, List.cons_append, List.cons_append, txt, if_pos rfl, if_neg (by decide), if_pos rfl]; rfl
  | x :: xs => by
    have ih := txt_esc more xs
    rw [escL_cons, List.append_assoc]
    unfold escOne
    by_cases h : x = 0
    · subst h
      rw [if_pos rfl, List.cons_append, List.cons_append, List.nil_append, txt, if_pos rfl, if_pos rfl, ih]
      simp
    · rw [if_neg h, List.cons_append, List.nil_append, txt_cons h, ih]
      simp
theorem txt_cut : ∀ (xs : List Int) (c : Nat), c < (escL xs).length → txt ((escL xs).take c) = none
  | [], c, h => by
    rw [escL_nil] at h ⊢
    have : c = 0 ∨ c = 1 := by simp at h; omega
    rcases this with rfl | rfl <;> rfl
  | x :: xs, c, h => by
    rw [escL_cons] at h ⊢
    unfold escOne at h ⊢
    by_cases e : x = 0
    · subst e
      rw [if_pos rfl] at h ⊢
      match c, h with
      | 0, _ => rfl
      | 1, _ => rfl
      | c + 2, h =>
        have := txt_cut xs c (by simp at h; omega)
        rw [List.cons_append, List.cons_append, List.nil_append, List.take_succ_cons, List.take_succ_cons, txt, if_pos rfl, if_pos rfl, this]; rfl
    · rw [if_neg e] at h ⊢
      match c, h with
      | 0, _ => rfl
      | c + 1, h =>
        have := txt_cut xs c (by simp at h; omega)
        rw [List.cons_append, List.nil_append, List.take_succ_cons, txt_cons e, this]; rfl
def txtRes (acc : List Int) (i : Nat) : Option (List Int × Nat) → ByteArray × Int × Bool
  | none => ((⟨#[]⟩ : ByteArray), 0, false)
  | some p => (strOfNums (acc ++ p.1), ((i + p.2 : Nat) : Int), true)
theorem txtRes_map1 (acc : List Int) (i : Nat) (x : Int) (r : Option (List Int × Nat)) : txtRes acc i (r.map (fun p => (x :: p.1, p.2 + 1))) = txtRes (acc ++ [x]) (i + 1) r := by
  cases r with
  | none => rfl
  | some p => simp only [Option.map_some, txtRes]; rw [List.append_assoc, show i + (p.2 + 1) = i + 1 + p.2 by omega]; rfl
theorem txtRes_map2 (acc : List Int) (i : Nat) (x : Int) (r : Option (List Int × Nat)) : txtRes acc i (r.map (fun p => (x :: p.1, p.2 + 2))) = txtRes (acc ++ [x]) (i + 2) r := by
  cases r with
  | none => rfl
  | some p => simp only [Option.map_some, txtRes]; rw [List.append_assoc, show i + (p.2 + 2) = i + 2 + p.2 by omega]; rfl
theorem key_text_l0 (L : List Int) (hL : isB L) (hlen : L.length ≤ 100000) : ∀ (d k i : Nat) (acc : List Int), 2 * d + 2 < k → i + d = L.length → acc.length + d ≤ 100000 → key_text.l0 k (strOfNums L) acc (i : Int) = some (txtRes acc i (txt (L.drop i))) := by
  intro d
  induction d using Nat.strongRecOn with
  | _ d ih =>
    intro k i acc hk hd ha
    have hz := son_size L
    obtain ⟨k, rfl⟩ : ∃ m, k = m + 1 := ⟨k - 1, by omega⟩
    simp only [key_text.l0]
    by_cases h : i < L.length
    · rw [if_pos (by omega), if_pos (by omega), bt_son hL i h, List.drop_eq_getElem_cons h]
      by_cases h0 : L[i] = 0
      · rw [if_pos h0, h0, wrap64_of (by omega) (by omega)]
        obtain ⟨k, rfl⟩ : ∃ m, k = m + 1 := ⟨k - 1, by omega⟩
        by_cases h1 : i + 1 < L.length
        · rw [if_pos (by omega), if_pos (by omega), show (i : Int) + 1 = ((i + 1 : Nat) : Int) by omega, bt_son hL (i + 1) h1, List.drop_eq_getElem_cons h1]
          simp only [key_text.j1]
          rw [txt, if_pos rfl]
          by_cases h2 : L[i + 1] = 255
          · rw [if_pos (by simpa using h2), if_pos (by omega), if_pos h2, txtRes_map2, wrap64_of (by omega) (by omega), show ((i + 1 : Nat) : Int) + 1 = ((i + 2 : Nat) : Int) by omega]
            exact ih (d - 2) (by omega) k (i + 2) (acc ++ [0]) (by omega) (by omega) (by simp; omega)
          · rw [if_neg (by simpa using h2), if_neg h2, if_pos (by omega), if_pos (by omega), bt_son hL (i + 1) h1]
            by_cases h3 : L[i + 1] = 1
            · rw [if_pos h3, if_pos h3, wrap64_of (by omega) (by omega)]
              simp only [txtRes, List.append_nil]
              rw [show ((i + 1 : Nat) : Int) + 1 = ((i + 2 : Nat) : Int) by omega]
            · rw [if_neg h3, if_neg h3]; rfl
        · rw [if_neg (by omega), List.drop_of_length_le (by omega)]
          simp only [key_text.j1]
          rw [if_neg (by decide), if_neg (by omega)]; rfl
      · rw [if_neg h0, if_pos (by omega), txt_cons h0, txtRes_map1, wrap64_of (by omega) (by omega), show (i : Int) + 1 = ((i + 1 : Nat) : Int) by omega]
        exact ih (d - 1) (by omega) k (i + 1) (acc ++ [L[i]]) (by omega) (by omega) (by simp; omega)
    · rw [if_neg (by omega), List.drop_of_length_le (by omega)]; rfl
theorem key_text_eq (L : List Int) (hL : isB L) (hlen : L.length ≤ 100000) (k : Nat) (hk : 2 * L.length + 2 < k) : key_text.f k (strOfNums L) = some (txtRes [] 0 (txt L)) := by
  have := key_text_l0 L hL hlen L.length k 0 [] hk (by omega) (by simpa using hlen)
  exact this
theorem tdm (n p : Int) (hp : 0 < p) : (n.tmod p < 0 ∧ n / p = n.tdiv p - 1 ∧ n % p = n.tmod p + p) ∨ (¬ n.tmod p < 0 ∧ n / p = n.tdiv p ∧ n % p = n.tmod p) := by
  have e1 := Int.mul_tdiv_add_tmod n p
  have e5 := Int.tmod_lt_of_pos n hp
  have e6 := Int.tmod_lt_of_pos (-n) hp
  rw [Int.neg_tmod] at e6
  by_cases c : n.tmod p < 0
  · have := (Int.ediv_emod_unique (a := n) (r := n.tmod p + p) (q := n.tdiv p - 1) hp).2 ⟨by rw [Int.mul_sub, Int.mul_one]; omega, by omega, by omega⟩
    exact Or.inl ⟨c, this.1, this.2⟩
  · have := (Int.ediv_emod_unique (a := n) (r := n.tmod p) (q := n.tdiv p) hp).2 ⟨by omega, by omega, by omega⟩
    exact Or.inr ⟨c, this.1, this.2⟩
theorem key_scaled_l0 (kd n : Int) (s : Nat) (st : ByteArray) (hs : s ≤ 6) (h0 : -1000000000000000 < n) (h1 : n < 1000000000000000) : ∀ (d k i : Nat), d < k → i + d = s → key_scaled.l0 k (p10 i) (s : Int) (i : Int) kd n (s : Int) st = some (n / p10 s, n % p10 s * p10 (6 - s))
  | 0, k, i, hk, hd => by
    obtain ⟨k, rfl⟩ : ∃ m, k = m + 1 := ⟨k - 1, by omega⟩
    obtain rfl : i = s := by omega
    have hp := p10_pos i
    have hp6 := p10_mono (m := i) (n := 6) hs
    have e6 := p10_six
    have hq := p10_six_sub i hs
    have hq0 := p10_pos (6 - i)
    have ht := tdiv_pows i hs
    rw [e6] at ht
    have hq1 := p10_mono (m := 6 - i) (n := 6) (by omega)
    have hd := ediv_small hp h0 h1
    have hm0 := Int.emod_nonneg n (show p10 i ≠ 0 by omega)
    have hm1 := Int.emod_lt_of_pos n hp
    have hmul : n % p10 i * p10 (6 - i) ≤ p10 i * p10 (6 - i) := Int.mul_le_mul_of_nonneg_right (by omega) (by omega)
    have hmul0 : 0 ≤ n % p10 i * p10 (6 - i) := Int.mul_nonneg hm0 (by omega)
    simp only [key_scaled.l0]
    rw [if_neg (by omega), if_neg (by omega), ht, wrap64_of (x := p10 (6 - i)) (by omega) (by omega)]
    rcases tdm n (p10 i) hp with ⟨c, e1, e2⟩ | ⟨c, e1, e2⟩
    · rw [if_pos c, wrap64_of (x := n.tdiv (p10 i)) (by omega) (by omega), wrap64_of (x := n.tdiv (p10 i) - 1) (by omega) (by omega), wrap64_of (x := n.tmod (p10 i) + p10 i) (by omega) (by omega), ← e1, ← e2, wrap64_of (by omega) (by omega)]
    · rw [if_neg c, wrap64_of (x := n.tdiv (p10 i)) (by omega) (by omega), ← e1, ← e2, wrap64_of (by omega) (by omega)]
  | d + 1, k, i, hk, hd => by
    obtain ⟨k, rfl⟩ : ∃ m, k = m + 1 := ⟨k - 1, by omega⟩
    have hp := p10_le (i + 1) (by omega)
    have hp0 := p10_pos (i + 1)
    simp only [key_scaled.l0]
    rw [if_pos (by omega), ← p10_succ, wrap64_of (by omega) (by omega), wrap64_of (by omega) (by omega), show (i : Int) + 1 = ((i + 1 : Nat) : Int) by omega]
    exact key_scaled_l0 kd n s st hs h0 h1 d k (i + 1) (by omega) (by omega)
theorem key_scaled_eq (k : Nat) (kd n : Int) (s : Nat) (st : ByteArray) (hk : 6 < k) (h : RD n s) : key_scaled.f k kd n (s : Int) st = some (n / p10 s, n % p10 s * p10 (6 - s)) := by
  have hs := h.sc
  exact key_scaled_l0 kd n s st hs h.lo h.hi s k 0 (by omega) (by omega)
def keyB (kd n : Int) (s : Nat) (st : ByteArray) : List Int :=
  if kd = 1 then [n] else if kd = 2 then be (n + 9223372036854775808) 8
  else if kd = 3 then be (n / p10 s + 9223372036854775808) 8 ++ be (n % p10 s * p10 (6 - s)) 4
  else if kd = 4 ∨ kd = 5 then escL (byteL st) else []
def keyL (kd n : Int) (s : Nat) (st : ByteArray) : List Int := kd :: keyB kd n s st
theorem right_bool {n sc : Int} {st : ByteArray} (h : rightB 1 n sc st = true) : 0 ≤ n ∧ n ≤ 1 := by
  unfold rightB at h
  rw [if_neg (by decide), if_pos rfl] at h
  simp only [Bool.and_eq_true, decide_eq_true_eq] at h
  exact h.1
theorem keyB_isB {kd n : Int} {s : Nat} {st : ByteArray} (m : Made kd n s st) : isB (keyB kd n s st) := by
  unfold keyB
  by_cases h1 : kd = 1
  · subst h1
    have := right_bool m.r
    rw [if_pos rfl]
    exact isB_cons (by omega) isB_nil
  rw [if_neg h1]
  by_cases h2 : kd = 2
  · rw [if_pos h2]; exact be_isB _ _
  rw [if_neg h2]
  by_cases h3 : kd = 3
  · rw [if_pos h3]; exact isB_append (be_isB _ _) (be_isB _ _)
  rw [if_neg h3]
  split
  · exact escL_isB (byteL_isB st)
  · exact isB_nil
theorem keyL_isB {kd n : Int} {s : Nat} {st : ByteArray} (m : Made kd n s st) : isB (keyL kd n s st) :=
  isB_cons (by have := m.k0; have := m.k5; omega) (keyB_isB m)
theorem keyB_len {kd n : Int} {s : Nat} {st : ByteArray} (m : Made kd n s st) : (keyB kd n s st).length ≤ 82 := by
  have h := escL_len (byteL st)
  rw [byteL_len] at h
  have hz : st.size = st.data.size := rfl
  have := m.sz
  unfold keyB
  split
  · simp
  split
  · rw [be_len]; omega
  split
  · rw [List.length_append, be_len, be_len]; omega
  split
  · omega
  · simp
theorem key_Key_eq {kd n : Int} {s : Nat} {st : ByteArray} (m : Made kd n s st) (k : Nat) (hk : 20 < k) : key_Key.f k kd n (s : Int) st = some (strOfNums (keyL kd n s st)) := by
  have hz : st.size = st.data.size := rfl
  have hsz := m.sz
  have he := escL_len (byteL st)
  rw [byteL_len] at he
  have k0 := m.k0
  have k5 := m.k5
  have hm : kd % 256 = kd := by omega
  unfold key_Key.f keyL keyB
  by_cases h4 : kd = 4
  · subst h4
    rw [if_pos rfl, if_pos (by omega), escAll_eq, if_pos (by omega), if_neg (by decide), if_neg (by decide), if_neg (by decide), if_pos (Or.inl rfl)]
  rw [if_neg h4]
  by_cases h5 : kd = 5
  · subst h5
    rw [if_pos rfl, if_pos (by omega), escAll_eq, if_pos (by omega), if_neg (by decide), if_neg (by decide), if_neg (by decide), if_pos (Or.inr rfl)]
  rw [if_neg h5]
  unfold key_Key_p.f
  rw [Option.bind_some, hm]
  by_cases h1 : kd = 1
  · subst h1
    have := right_bool m.r
    rw [if_pos rfl, if_pos rfl, if_pos (by simp), show n % 256 = n by omega]; rfl
  rw [if_neg h1, if_neg h1]
  by_cases h2 : kd = 2
  · rw [if_pos h2, if_pos h2, key_signed_eq k n (by omega), Option.bind_some, if_pos (by rw [be_len]; simp)]; rfl
  rw [if_neg h2, if_neg h2]
  by_cases h3 : kd = 3
  · have hd := m.v.d h3
    have hs := hd.sc
    obtain ⟨k, rfl⟩ : ∃ j, k = j + 1 := ⟨k - 1, by omega⟩
    rw [if_pos h3, if_pos h3, if_neg (by omega), decide_eq_false (by omega)]
    simp only [key_Key_p.j0]
    have e4 := key_number_eq (n % p10 s * p10 (6 - s)) 4 k (by omega) (by decide) (by decide)
    rw [if_neg (by decide), key_scaled_eq k kd n s st (by omega) hd, Option.bind_some]
    dsimp only
    rw [key_signed_eq k _ (by omega), Option.bind_some, if_pos (by rw [be_len]; simp), Option.bind_some, show (4 : Int) = ((4 : Nat) : Int) from rfl, e4, Option.bind_some, if_pos (by simp [be_len]), List.append_assoc]
    rfl
  · rw [if_neg h3, if_neg h3, if_neg h4, if_neg h5, if_neg (by omega)]
end Go.Proofs.Ytjacflmgbmfhcaa.K
namespace Go.Proofs.Ytjacflmgbmfhcaa.K
open Go.RowKit Go.Proofs.YtjacflmgbmfhcaaW.PrintWords Go.Proofs.YtjacflmgbmfhcaaW.PrintLast Go.Proofs.YtjacflmgbmfhcaaW.PrintMore
attribute [local go_sem] max2_int min2_int max_two min_two max_three min_three max_four min_four
attribute [local go_sem high] own_gtr own_leq own_geq own_cell_set Option.map_some fld24_3
set_option linter.unusedVariables false
set_option linter.unusedSimpArgs false
theorem right_empty {kd n sc : Int} {st : ByteArray} (h : rightB kd n sc st = true) (h0 : 0 ≤ kd) (h3 : kd ≤ 3) : st.toList = [] := by
  have e : noS st = true := by
    unfold rightB at h
    have c : kd = 0 ∨ kd = 1 ∨ kd = 2 ∨ kd = 3 := by omega
    rcases c with rfl | rfl | rfl | rfl
    · simp only [if_true, Bool.and_eq_true] at h; exact h.2.2
    · rw [if_neg (by decide), if_pos rfl] at h; simp only [Bool.and_eq_true] at h; exact h.2.2
    · rw [if_neg (by decide), if_neg (by decide), if_pos rfl] at h; simp only [Bool.and_eq_true] at h; exact h.2
    · rw [if_neg (by decide), if_neg (by decide), if_neg (by decide), if_pos rfl] at h; simp only [Bool.and_eq_true] at h; exact h.2
  simpa [noS] using e
theorem right_null {n sc : Int} {st : ByteArray} (h : rightB 0 n sc st = true) : n = 0 ∧ sc = 0 := by
  unfold rightB at h
  simp only [if_true, Bool.and_eq_true, beq_iff_eq] at h
  exact ⟨h.1, h.2.1⟩
end Go.Proofs.Ytjacflmgbmfhcaa.K
