-- Written by drive.py and pack.py (programs of this proof's own) through the kit's printer; not trusted: Lean checks it.
import Derived.Test.YtdlkibeljkapeaaGreatDoorCSqlNumbers3
namespace Go.Proofs.YtdlkibeljkapeaaGreatDoor.Den
open Go Go.RowKit
def dgs (m w : Nat) : List UInt8 := if m = 0 ∧ w = 0 then [] else dgs (m / 10) (w - 1) ++ [UInt8.ofNat (48 + m % 10)]
termination_by m + w
decreasing_by
  rename_i h
  have : m / 10 ≤ m := Nat.div_le_self m 10
  rcases Nat.eq_zero_or_pos m with h0 | h0
  · subst h0; simp at h ⊢; omega
  · have : m / 10 < m := Nat.div_lt_self h0 (by decide)
    omega
def diT : List (Nat × PV) := [(0, .atom 0), (1, .atom 1), (5, .atom 2)]
def diA (b1 b2 : Bool) : List Fact := [oI .lss (.atom 0) (nI 0) (.bool b1), .op (.len ty_string) [.atom 2] (.atom 3), oI .lss (.atom 3) (.atom 1) (.bool b2)]
def diB : List Fact := [oI .rem (.atom 0) (nI 10) (.atom 4), oI .sub (nI 48) (.atom 4) (.atom 5), .op (.conv ty_int ty_uint8) [.atom 5] (.atom 6), .op (.conv ty_sl_uint8 ty_string) [.slice 1 [.atom 6]] (.atom 7), .op (.bin .add ty_string) [.atom 7, .atom 2] (.atom 8), oI .quo (.atom 0) (nI 10) (.atom 9)]
noncomputable abbrev diRun (fs : List Fact) : Option (Ex × St) := execN PG (fOrc noOwn fs) (callF PG (fOrc noOwn fs) 5) ((fOrc noOwn fs).loop f_r3_Digits) 5 3 (loopAt PG f_r3_Digits 2) ⟨diT, []⟩
theorem di_lone : loneB PG f_r3_Digits 2 = true := by kernel_rfl
theorem di_a : runsB (diRun (diA false false)) (.exit 0) [(5, .atom 2)] [] = true := by kernel_rfl
theorem di_b : bl (fun b => runsB (diRun (diA b (!b) ++ diB)) .normal [(0, .atom 9), (1, .atom 1), (5, .atom 8)] []) = true := by kernel_rfl
theorem di_c : runsB (diRun (diA true true ++ diB)) .normal [(0, .atom 9), (1, .atom 1), (5, .atom 8)] [] = true := by kernel_rfl
theorem di_f : okR (.atom 2) (callF PG (fOrc noOwn [.loop f_r3_Digits 2 [(0, .atom 0), (1, .atom 1), (5, .str [])] [] (.exit 0) [(5, .atom 2)] []]) 5 f_r3_Digits [.atom 0, .atom 1] []) = true := by kernel_rfl
theorem fIntU8 {nu : Nat → PV} {x r : PV} {n : Int} (h1 : subD nu x = nI n) (h2 : subD nu r = .int .u8 n) (hn : 0 ≤ n ∧ n ≤ 255) (h3 : oneB nu r = true) : FactOk PG nu (.op (.conv ty_int ty_uint8) [x] r) := by
  refine ⟨?_, h3⟩
  show convP PG ty_int ty_uint8 (subD nu x) = some (subD nu r)
  rw [h1, h2]
  have e1 : PG.underlying ty_uint8 = some (.int .u8) := by kernel_rfl
  have e2 : PG.underlying ty_int = some (.int .i64) := by kernel_rfl
  unfold convP
  rw [e1, e2]
  show some (PV.int .u8 (IntKind.u8.wrap n)) = _
  rw [Go.IntWalk.u8_in n hn]
theorem fByteStr {nu : Nat → PV} {x r : PV} {c : UInt8} (h1 : subD nu x = nB c) (h2 : subD nu r = .str [c]) (h3 : oneB nu r = true) : FactOk PG nu (.op (.conv ty_sl_uint8 ty_string) [.slice 1 [x]] r) := by
  refine ⟨?_, h3⟩
  show convP PG ty_sl_uint8 ty_string (.slice 1 [subD nu x]) = some (subD nu r)
  rw [h1, h2]
  have e1 : PG.underlying ty_sl_uint8 = some (.slice ty_uint8) := by kernel_rfl
  have e2 : PG.underlying ty_string = some .string := by kernel_rfl
  have e3 : PG.underlying ty_uint8 = some (.int .u8) := by kernel_rfl
  unfold convP
  rw [e1, e2]
  simp only [e3]
  show (match bytesOf [.int .u8 (c.toNat : Int)] with | some l => some (PV.str l) | none => none) = _
  simp [bytesOf]
def diNu (m w : Nat) (acc : List UInt8) : List PV := [nI (-(m : Int)), nI w, .str acc, nI acc.length, nI (-((m % 10 : Nat) : Int)), nI ((48 + m % 10 : Nat) : Int), nB (UInt8.ofNat (48 + m % 10)), .str [UInt8.ofNat (48 + m % 10)], .str (UInt8.ofNat (48 + m % 10) :: acc), nI (-((m / 10 : Nat) : Int))]
theorem dgs_nil : dgs 0 0 = [] := by unfold dgs; rfl
theorem dgs_step {m w : Nat} (h : ¬ (m = 0 ∧ w = 0)) : dgs m w = dgs (m / 10) (w - 1) ++ [UInt8.ofNat (48 + m % 10)] := by
  conv => lhs; unfold dgs
  rw [if_neg h]
theorem dgs_len : ∀ (j : Nat) {m w : Nat}, m < 10 ^ j → w ≤ j → (dgs m w).length ≤ j
  | 0, m, w, h, hw => by
    obtain rfl : m = 0 := by simpa using h
    obtain rfl : w = 0 := by omega
    rw [dgs_nil]; simp
  | j + 1, m, w, h, hw => by
    by_cases hc : m = 0 ∧ w = 0
    · rw [hc.1, hc.2, dgs_nil]; simp
    · rw [dgs_step hc, List.length_append]
      have := dgs_len j (m := m / 10) (w := w - 1) (by rw [Nat.pow_succ] at h; omega) (by omega)
      simp only [List.length_cons, List.length_nil]
      omega
set_option maxRecDepth 20000 in
theorem di_loop (w : Nat) : ∀ (k m : Nat) (acc : List UInt8), (dgs m (w - acc.length)).length = k → m ≤ 9223372036854775808 → acc.length + k ≤ 1000 → w ≤ 1000 →
    RunsR PG (ntOf PG f_r3_Digits) (loopAt PG f_r3_Digits 2) [(0, nI (-(m : Int))), (1, nI w), (5, .str acc)] [] (.exit 0) [(5, .str (dgs m (w - acc.length) ++ acc))] [] := by
  intro k
  induction k with
  | zero =>
    intro m acc hk hm ha hw
    have hc : m = 0 ∧ w - acc.length = 0 := by
      by_cases hc : m = 0 ∧ w - acc.length = 0
      · exact hc
      · rw [dgs_step hc] at hk; simp at hk
    obtain ⟨rfl, hw0⟩ := hc
    rw [hw0, dgs_nil]
    refine RunsR.leave ?_ (fun h => by cases h)
    exact RunsP.chk (nu := nuL (diNu 0 w acc)) prog_ok (nuL_okB rfl) (T := diT) (s := []) (T' := [(5, .atom 2)]) (s' := []) di_lone di_a
      ⟨fCmp (c := false) (a := 0) (b := 0) rfl rfl rfl rfl (by decide) rfl, fStrLen rfl rfl rfl, fCmp (c := false) (a := acc.length) (b := w) rfl rfl rfl (by simp only [intP]; rw [decide_eq_false (by omega)]) (by decide) rfl, trivial⟩ rfl rfl rfl
  | succ k ih =>
    intro m acc hk hm ha hw
    have hc : ¬ (m = 0 ∧ w - acc.length = 0) := fun hc => by rw [hc.1, hc.2, dgs_nil] at hk; simp at hk
    have hs := dgs_step hc
    have hwa : w - (UInt8.ofNat (48 + m % 10) :: acc).length = w - acc.length - 1 := by rw [List.length_cons]; omega
    have hr := ih (m / 10) (UInt8.ofNat (48 + m % 10) :: acc) (by rw [hwa]; rw [hs, List.length_append] at hk; simpa using hk) (by omega) (by rw [List.length_cons]; omega) hw
    have e0 : dgs (m / 10) (w - acc.length - 1) ++ UInt8.ofNat (48 + m % 10) :: acc = dgs m (w - acc.length) ++ acc := by rw [hs]; simp
    rw [hwa, e0] at hr
    have e1 : (-(m : Int)).tmod 10 = -((m % 10 : Nat) : Int) := by rw [Int.neg_tmod, Int.tmod_eq_emod_of_nonneg (by omega)]; omega
    have e2 : IntKind.i64.wrap (48 - -((m % 10 : Nat) : Int)) = ((48 + m % 10 : Nat) : Int) := by rw [w6_id (by omega) (by omega)]; omega
    have e3 : (-(m : Int)).tdiv 10 = -((m / 10 : Nat) : Int) := by rw [Int.neg_tdiv, Int.tdiv_eq_ediv_of_nonneg (by omega)]; omega
    have e4 : IntKind.i64.wrap (-((m / 10 : Nat) : Int)) = -((m / 10 : Nat) : Int) := w6_id (by omega) (by omega)
    have e5 : (UInt8.ofNat (48 + m % 10)).toNat = 48 + m % 10 := by simp only [UInt8.toNat_ofNat']; omega
    have hcv : PV.int .u8 ((48 + m % 10 : Nat) : Int) = nB (UInt8.ofNat (48 + m % 10)) := by show _ = PV.int .u8 (((UInt8.ofNat (48 + m % 10)).toNat : Nat) : Int); rw [e5]
    have hB : FactsOk PG (nuL (diNu m w acc)) diB :=
      ⟨fInt (a := -(m : Int)) (b := 10) rfl rfl rfl (by simp [intP, e1]) (by decide) rfl, fInt (a := 48) (b := -((m % 10 : Nat) : Int)) rfl rfl rfl (by simp only [intP]; rw [e2]) (by decide) rfl, fIntU8 (n := ((48 + m % 10 : Nat) : Int)) rfl hcv.symm (by omega) rfl, fByteStr rfl rfl rfl,
        fStrAdd (l := [UInt8.ofNat (48 + m % 10)]) (m := acc) rfl rfl (by simp; omega) rfl rfl, fInt (a := -(m : Int)) (b := 10) rfl rfl rfl (by simp [intP, e3]; simpa using e4) (by decide) rfl, trivial⟩
    refine RunsR.round ?_ hr
    by_cases hm0 : m = 0
    · subst hm0
      have hA : FactsOk PG (nuL (diNu 0 w acc)) (diA false true) := ⟨fCmp (c := false) (a := 0) (b := 0) rfl rfl rfl rfl (by decide) rfl, fStrLen rfl rfl rfl, fCmp (c := true) (a := acc.length) (b := w) rfl rfl rfl (by simp only [intP]; rw [decide_eq_true (by omega)]) (by decide) rfl, trivial⟩
      exact RunsP.chk (nu := nuL (diNu 0 w acc)) prog_ok (nuL_okB rfl) (T := diT) (s := []) (T' := [(0, .atom 9), (1, .atom 1), (5, .atom 8)]) (s' := []) di_lone (bl_all di_b false) (FactsOk.append hA hB) rfl rfl rfl
    · have hlt : decide (-(m : Int) < 0) = true := decide_eq_true (by omega)
      by_cases hw1 : acc.length < w
      · have hA : FactsOk PG (nuL (diNu m w acc)) (diA true true) := ⟨fCmp (c := true) (a := -(m : Int)) (b := 0) rfl rfl rfl (by simp only [intP]; rw [hlt]) (by decide) rfl, fStrLen rfl rfl rfl, fCmp (c := true) (a := acc.length) (b := w) rfl rfl rfl (by simp only [intP]; rw [decide_eq_true (by omega)]) (by decide) rfl, trivial⟩
        exact RunsP.chk (nu := nuL (diNu m w acc)) prog_ok (nuL_okB rfl) (T := diT) (s := []) (T' := [(0, .atom 9), (1, .atom 1), (5, .atom 8)]) (s' := []) di_lone di_c (FactsOk.append hA hB) rfl rfl rfl
      · have hA : FactsOk PG (nuL (diNu m w acc)) (diA true false) := ⟨fCmp (c := true) (a := -(m : Int)) (b := 0) rfl rfl rfl (by simp only [intP]; rw [hlt]) (by decide) rfl, fStrLen rfl rfl rfl, fCmp (c := false) (a := acc.length) (b := w) rfl rfl rfl (by simp only [intP]; rw [decide_eq_false (by omega)]) (by decide) rfl, trivial⟩
        exact RunsP.chk (nu := nuL (diNu m w acc)) prog_ok (nuL_okB rfl) (T := diT) (s := []) (T' := [(0, .atom 9), (1, .atom 1), (5, .atom 8)]) (s' := []) di_lone (bl_all di_b true) (FactsOk.append hA hB) rfl rfl rfl
theorem digits_ev {m w : Nat} (hm : m ≤ 9223372036854775808) (hw : w ≤ 100) : Ev PG f_r3_Digits [nI (-(m : Int)), nI w] (.str (dgs m w)) := by
  have hl : (dgs m w).length ≤ 100 := dgs_len 100 (Nat.lt_of_le_of_lt hm (by decide)) hw
  have h := di_loop w (dgs m w).length m [] rfl hm (by simp; omega) (by omega)
  rw [List.append_nil] at h
  exact Ev.facts (nu := nuL [nI (-(m : Int)), nI w, .str (dgs m w)]) prog_ok (nuL_okB rfl) (okR_eq di_f) ⟨fLoopOk di_lone (Nat.le_refl _) h rfl, trivial⟩ rfl rfl
end Go.Proofs.YtdlkibeljkapeaaGreatDoor.Den
namespace Go.Proofs.YtdlkibeljkapeaaGreatDoor.Den
open Go Go.RowKit
def sgnL (n : Int) : List UInt8 := if n ≥ 0 then [] else [45]
def dgN (n : Int) (k : Nat) : List UInt8 := dgs n.natAbs (k + 1)
def whN (n : Int) (k : Nat) : List UInt8 := (dgN n k).take ((dgN n k).length - k)
def ptN (n : Int) (k : Nat) : List UInt8 := (dgN n k).drop ((dgN n k).length - k)
def nuS : Bool → List Fact
  | true => [oI .sub (nI 0) (.atom 0) (.atom 2), .prim f_r3_Digits [.atom 2, .atom 3] (.atom 4)]
  | false => [.prim f_r3_Digits [.atom 0, .atom 3] (.atom 4)]
def nuF (b : Bool) : List Fact := nuS b ++ [oI .geq (.atom 0) (nI 0) (.bool b), oI .add (.atom 1) (nI 1) (.atom 3), .op (.len ty_string) [.atom 4] (.atom 5), oI .sub (.atom 5) (.atom 1) (.atom 6),
  .op (.slice ty_string false true) [.atom 4, .atom 6] (.atom 7), .op (.bin .add ty_string) [.str (if b then [] else [45]), .atom 7] (.atom 8)]
def nuD (z : Bool) : List Fact := [oI .eql (.atom 1) (nI 0) (.bool z), .op (.bin .add ty_string) [.atom 8, .str [46, 48]] (.atom 9), .op (.bin .add ty_string) [.atom 8, .str [46]] (.atom 10), .op (.slice ty_string true false) [.atom 4, .atom 6] (.atom 11), .op (.bin .add ty_string) [.atom 10, .atom 11] (.atom 12)]
theorem nu_kd : bl (fun b => bl fun z => okR (if z then .atom 9 else .atom 12) (callF PG (fOrc noOwn (nuF b ++ nuD z)) 10 f_r3_numeral [.agg [nI 3, .atom 0, .atom 1, .str []]] [])) = true := by kernel_rfl
theorem nu_ld : okR (.atom 2) (callF PG (fOrc noOwn [.prim f_r3_numeral [.agg [nI 3, .atom 0, .atom 1, .str []]] (.atom 2)]) 10 f_r3_Lit [.agg [nI 3, .atom 0, .atom 1, .str []]] []) = true := by kernel_rfl
def nuNu (n : Int) (k : Nat) : List PV :=
  [nI n, nI k, nI (-n), nI (k + 1 : Nat), .str (dgN n k), nI (dgN n k).length, nI ((dgN n k).length - k : Nat), .str (whN n k), .str (sgnL n ++ whN n k), .str (sgnL n ++ whN n k ++ [46, 48]), .str (sgnL n ++ whN n k ++ [46]), .str (ptN n k), .str (sgnL n ++ whN n k ++ [46] ++ ptN n k)]
theorem dgs_ge : ∀ (w m : Nat), w ≤ (dgs m w).length
  | 0, m => Nat.zero_le _
  | w + 1, m => by
    rw [dgs_step (by omega), List.length_append]
    have := dgs_ge w (m / 10)
    simp only [List.length_cons, List.length_nil, Nat.add_sub_cancel]
    omega
section
variable {n : Int} {k : Nat}
theorem dgN_len (hn : -9223372036854775808 ≤ n ∧ n ≤ 9223372036854775807) (hk : k ≤ 6) : k + 1 ≤ (dgN n k).length ∧ (dgN n k).length ≤ 100 :=
  ⟨dgs_ge _ _, dgs_len 100 (Nat.lt_of_le_of_lt (show n.natAbs ≤ 9223372036854775808 by omega) (by decide)) (by omega)⟩
theorem nuF_ok (hn : -9223372036854775808 ≤ n ∧ n ≤ 9223372036854775807) (hk : k ≤ 6) (b : Bool) (hb : decide (n ≥ 0) = b) : FactsOk PG (nuL (nuNu n k)) (nuF b) := by
  obtain ⟨h1, h2⟩ := dgN_len hn hk
  have hD := digits_ev (m := n.natAbs) (w := k + 1) (by omega) (by omega)
  have e3 : IntKind.i64.wrap ((k : Int) + 1) = ((k + 1 : Nat) : Int) := by rw [w6_id (by omega) (by omega)]; omega
  have e6 : IntKind.i64.wrap (((dgN n k).length : Int) - (k : Int)) = (((dgN n k).length - k : Nat) : Int) := by rw [w6_id (by omega) (by omega)]; omega
  have hwl : (whN n k).length ≤ 100 := by unfold whN; rw [List.length_take]; omega
  have hsg : sgnL n = if b then [] else [45] := by
    unfold sgnL
    cases b with
    | true => rw [if_pos (by simpa using hb)]; rfl
    | false => rw [if_neg (by simpa using hb)]; rfl
  have hDig : FactsOk PG (nuL (nuNu n k)) (nuS b) := by
    cases b with
    | true =>
      have h0 : n ≥ 0 := by simpa using hb
      rw [show (-(n.natAbs : Int)) = -n by omega] at hD
      have e2 : IntKind.i64.wrap (0 - n) = -n := by rw [w6_id (by omega) (by omega)]; omega
      exact ⟨fInt (a := 0) (b := n) rfl rfl rfl (by simp only [intP]; rw [e2]) (by decide) rfl, fprim hD rfl rfl rfl, trivial⟩
    | false =>
      have h0 : ¬ n ≥ 0 := by simpa using hb
      rw [show (-(n.natAbs : Int)) = n by omega] at hD
      exact ⟨fprim hD rfl rfl rfl, trivial⟩
  exact FactsOk.append hDig ⟨fCmp (a := n) (b := 0) (c := b) rfl rfl rfl (by simp only [intP]; rw [hb]) (by decide) rfl, fInt (a := k) (b := 1) rfl rfl rfl (by simp only [intP]; rw [e3]) (by decide) rfl, fStrLen rfl rfl rfl, fInt (a := (dgN n k).length) (b := k) rfl rfl rfl (by simp only [intP]; rw [e6]) (by decide) rfl,
    fSliceFr rfl rfl (by omega) rfl rfl rfl, fStrAdd (l := if b then [] else [45]) (m := whN n k) rfl rfl (by cases b <;> simp <;> omega) (by rw [← hsg]; rfl) rfl, trivial⟩
def ptT (n : Int) (k : Nat) : List UInt8 := if k = 0 then [48] else ptN n k
theorem numeral_dec (hn : -1000000000000000 < n ∧ n < 1000000000000000) (hk : k ≤ 6) : Ev PG f_r3_numeral [vP (3, n, k, [])] (.str (sgnL n ++ whN n k ++ 46 :: ptT n k)) := by
  obtain ⟨h1, h2⟩ := dgN_len (n := n) (k := k) (by omega) hk
  have hwl : (whN n k).length ≤ 100 := by unfold whN; rw [List.length_take]; omega
  have hsl : (sgnL n).length ≤ 1 := by unfold sgnL; split <;> simp
  have hpl : (ptN n k).length ≤ 100 := by unfold ptN; rw [List.length_drop]; omega
  have hf : ∀ z, ((k : Int) == 0) = z → FactsOk PG (nuL (nuNu n k)) (nuF (decide (n ≥ 0)) ++ nuD z) := fun z hz =>
    FactsOk.append (nuF_ok (by omega) hk _ rfl) ⟨fCmp (c := z) rfl rfl rfl (by rw [i64eq, hz]) (by decide) rfl, fStrAdd (l := sgnL n ++ whN n k) (m := [46, 48]) rfl rfl (by simp; omega) rfl rfl, fStrAdd (l := sgnL n ++ whN n k) (m := [46]) rfl rfl (by simp; omega) rfl rfl, fSliceTo rfl rfl (by omega) rfl rfl rfl,
      fStrAdd (l := sgnL n ++ whN n k ++ [46]) (m := ptN n k) rfl rfl (by simp; omega) rfl rfl, trivial⟩
  by_cases hz : k = 0
  · have hz' : ((k : Int) == 0) = true := by rw [beq_iff_eq]; omega
    have := Ev.facts (nu := nuL (nuNu n k)) (args := [.agg [nI 3, .atom 0, .atom 1, .str []]]) prog_ok (nuL_okB rfl) (okR_eq (bl_all (bl_all nu_kd (decide (n ≥ 0))) true)) (hf true hz') rfl rfl
    unfold ptT
    rw [if_pos hz]
    have e : sgnL n ++ whN n k ++ 46 :: [48] = sgnL n ++ whN n k ++ [46, 48] := by simp
    rw [e]
    exact this
  · have hz' : ((k : Int) == 0) = false := by rw [beq_eq_false_iff_ne]; omega
    have := Ev.facts (nu := nuL (nuNu n k)) (args := [.agg [nI 3, .atom 0, .atom 1, .str []]]) prog_ok (nuL_okB rfl) (okR_eq (bl_all (bl_all nu_kd (decide (n ≥ 0))) false)) (hf false hz') rfl rfl
    unfold ptT
    rw [if_neg hz]
    have e : sgnL n ++ whN n k ++ 46 :: ptN n k = sgnL n ++ whN n k ++ [46] ++ ptN n k := by simp
    rw [e]
    exact this
theorem rlit_dec (hn : -1000000000000000 < n ∧ n < 1000000000000000) (hk : k ≤ 6) : Ev PG f_r3_Lit [vP (3, n, k, [])] (.str (sgnL n ++ whN n k ++ 46 :: ptT n k)) :=
  Ev.facts (nu := nuL [nI n, nI k, .str (sgnL n ++ whN n k ++ 46 :: ptT n k)]) (args := [.agg [nI 3, .atom 0, .atom 1, .str []]]) prog_ok (nuL_okB rfl) (okR_eq nu_ld) ⟨fprim (numeral_dec hn hk) rfl rfl rfl, trivial⟩ rfl rfl
end
end Go.Proofs.YtdlkibeljkapeaaGreatDoor.Den
namespace Go.Proofs.YtdlkibeljkapeaaGreatDoor.Den
open Go Go.RowKit
def zer (a : Nat) : List UInt8 := List.replicate a 48
theorem zer_digit (a : Nat) : (zer a).all isDigit = true := by
  unfold zer
  rw [List.all_replicate]
  by_cases h : a = 0 <;> simp [h] <;> decide
theorem numZ_app (a b : List UInt8) (n : Int) : numZ (a ++ b) n = numZ b (numZ a n) := List.foldl_append
theorem dgs_num : ∀ (j : Nat) {m w : Nat}, m < 10 ^ j → w ≤ j → numZ (dgs m w) 0 = -(m : Int) ∧ (dgs m w).all isDigit = true
  | 0, m, w, h, hw => by
    obtain rfl : m = 0 := by simpa using h
    obtain rfl : w = 0 := by omega
    rw [dgs_nil]; exact ⟨rfl, rfl⟩
  | j + 1, m, w, h, hw => by
    by_cases hc : m = 0 ∧ w = 0
    · rw [hc.1, hc.2, dgs_nil]; exact ⟨rfl, rfl⟩
    · rw [dgs_step hc, numZ_app, List.all_append]
      obtain ⟨h1, h2⟩ := dgs_num j (m := m / 10) (w := w - 1) (by rw [Nat.pow_succ] at h; omega) (by omega)
      have e5 : (UInt8.ofNat (48 + m % 10)).toNat = 48 + m % 10 := by simp only [UInt8.toNat_ofNat']; omega
      rw [h1, h2]
      refine ⟨?_, ?_⟩
      · show 10 * -((m / 10 : Nat) : Int) - (((UInt8.ofNat (48 + m % 10)).toNat : Int) - 48) = _
        rw [e5]; omega
      · simp only [List.all_cons, List.all_nil, isDigit, e5, Bool.and_true, Bool.true_and, Bool.and_eq_true, decide_eq_true_eq]
        omega
theorem numZ_trimL : ∀ (l : List UInt8), numZ (trimL l) 0 = numZ l 0
  | [] => rfl
  | c :: l => by
    unfold trimL
    rw [List.dropWhile_cons]
    split
    · rename_i hc
      rw [beq_iff_eq] at hc
      subst hc
      have := numZ_trimL l
      unfold trimL at this
      rw [this]; rfl
    · rfl
theorem trimL_zer (a : Nat) (l : List UInt8) : trimL (zer a ++ l) = trimL l := by
  induction a with
  | zero => rfl
  | succ a ih =>
    show trimL (48 :: (zer a ++ l)) = _
    unfold trimL at ih ⊢
    rw [List.dropWhile_cons, if_pos (by decide)]
    exact ih
theorem trimR_zer (p : List UInt8) (b : Nat) : trimR (p ++ zer b) = trimR p := by
  unfold trimR
  rw [List.reverse_append, show (zer b).reverse = zer b by simp [zer], trimL_zer]
theorem trimR_last (q : List UInt8) {c : UInt8} (h : c ≠ 48) : trimR (q ++ [c]) = q ++ [c] := by
  unfold trimR trimL
  rw [List.reverse_append, List.reverse_cons, List.reverse_nil, List.nil_append, List.singleton_append, List.dropWhile_cons, if_neg (by simpa using h), List.reverse_cons, List.reverse_reverse]
section
variable {n : Int} {k : Nat}
theorem wp_eq (n : Int) (k : Nat) : whN n k ++ ptN n k = dgN n k := List.take_append_drop _ _
theorem dgN_num (hn : -9223372036854775808 ≤ n ∧ n ≤ 9223372036854775807) (hk : k ≤ 6) : numZ (dgN n k) 0 = -(n.natAbs : Int) ∧ (dgN n k).all isDigit = true :=
  dgs_num 100 (Nat.lt_of_le_of_lt (show n.natAbs ≤ 9223372036854775808 by omega) (by decide)) (by omega)
theorem wh_digit (hn : -9223372036854775808 ≤ n ∧ n ≤ 9223372036854775807) (hk : k ≤ 6) : (whN n k).all isDigit = true ∧ (ptN n k).all isDigit = true := by
  have := (dgN_num hn hk).2
  rw [← wp_eq, List.all_append, Bool.and_eq_true] at this
  exact this
theorem ptN_last (hk : 1 ≤ k) (hm : n.natAbs % 10 ≠ 0) : ∃ q c, ptN n k = q ++ [c] ∧ c ≠ 48 := by
  have h1 : dgN n k = dgs (n.natAbs / 10) k ++ [UInt8.ofNat (48 + n.natAbs % 10)] := dgs_step (by omega)
  refine ⟨(dgs (n.natAbs / 10) k).drop ((dgN n k).length - k), UInt8.ofNat (48 + n.natAbs % 10), ?_, fun e => ?_⟩
  · unfold ptN
    conv => lhs; rw [h1]
    rw [List.drop_append_of_le_length]
    · rw [h1]
    · rw [List.length_append]; simp; omega
  · have := congrArg UInt8.toNat e
    simp only [UInt8.toNat_ofNat'] at this
    have e48 : (48 : UInt8).toNat = 48 := rfl
    omega
theorem ptN_len (hn : -9223372036854775808 ≤ n ∧ n ≤ 9223372036854775807) (hk : k ≤ 6) : (ptN n k).length = k := by
  have := (dgN_len hn hk).1
  unfold ptN
  rw [List.length_drop]; omega
theorem meant_num (a b : Nat) (bl : Bool) (ha : a ≤ 1000) (hb : b ≤ 1000) (hn : -1000000000000000 < n ∧ n < 1000000000000000) (hk : k ≤ 6) (hm : k = 0 ∨ n.natAbs % 10 ≠ 0) :
    Ev PG f_sql_meant [.str ((zer a ++ whN n k) ++ 46 :: (ptT n k ++ zer b)), .bool bl] (.tup [vP (3, mtV bl (-(n.natAbs : Int)), k, []), .bool true]) := by
  have hn' : -9223372036854775808 ≤ n ∧ n ≤ 9223372036854775807 := by omega
  obtain ⟨hd1, hd2⟩ := wh_digit hn' hk
  obtain ⟨hnum, _⟩ := dgN_num hn' hk
  have hl := (dgN_len hn' hk).2
  have hwl : (whN n k).length ≤ 100 := by unfold whN; rw [List.length_take]; omega
  have hpt : (ptT n k).all isDigit = true := by
    unfold ptT
    split
    · rfl
    · exact hd2
  have hptl : (ptT n k).length ≤ 100 := by
    unfold ptT
    split
    · simp
    · rw [ptN_len hn' hk]; omega
  have htr : trimR (ptT n k ++ zer b) = ptN n k := by
    rw [trimR_zer]
    unfold ptT
    by_cases h0 : k = 0
    · rw [if_pos h0]
      have : ptN n k = [] := List.length_eq_zero_iff.1 (by rw [ptN_len hn' hk]; exact h0)
      rw [this]; decide
    · rw [if_neg h0]
      obtain ⟨q, c, e, hc⟩ := ptN_last (n := n) (k := k) (by omega) (hm.resolve_left h0)
      rw [e]; exact trimR_last q hc
  have hval : numZ (trimL ((zer a ++ whN n k) ++ trimR (ptT n k ++ zer b))) 0 = -(n.natAbs : Int) := by
    rw [htr, List.append_assoc, wp_eq, trimL_zer, numZ_trimL, hnum]
  have := meant_dec (s := (zer a ++ whN n k) ++ 46 :: (ptT n k ++ zer b)) (w := zer a ++ whN n k) (p := ptT n k ++ zer b) bl (by simp [zer]; omega) rfl (by rw [List.all_append, zer_digit, hd1]; rfl) (by rw [List.all_append, zer_digit, hpt]; rfl) hval (by omega) (by
    rw [htr, ptN_len hn' hk]
    rcases hm with h | h
    · exact .inr ⟨by omega, .inl h⟩
    · refine .inr ⟨hk, .inr ?_⟩
      rw [Int.neg_tmod, Int.tmod_eq_emod_of_nonneg (by omega)]
      omega)
  rw [htr, ptN_len hn' hk] at this
  have e : (if -(n.natAbs : Int) = 0 then (0 : Int) else ((k : Nat) : Int)) = k := by
    split
    · rcases hm with h | h <;> omega
    · rfl
  rw [e] at this
  exact this
end
end Go.Proofs.YtdlkibeljkapeaaGreatDoor.Den
namespace Go.Proofs.YtdlkibeljkapeaaGreatDoor.Den
open Go Go.RowKit
def decW (a b : Nat) (n : Int) (k : Nat) : List UInt8 := (zer a ++ whN n k) ++ 46 :: (ptT n k ++ zer b)
def snText (a b : Nat) (n : Int) (k : Nat) : List UInt8 := insB ++ (sgnL n ++ (32 :: (decW a b n k ++ [41])))
section
variable {n : Int} {k a b : Nat}
theorem sn_parse (ha : a ≤ 100) (hb : b ≤ 100) (hn : -1000000000000000 < n ∧ n < 1000000000000000) (hk : k ≤ 6) (hm : k = 0 ∨ n.natAbs % 10 ≠ 0) :
    Ev PG f_sql_Parse [.str (snText a b n k)] (.tup [stmtP (nI 4) tableZ (.str [116]) (.str []) (.str []) (.slice 4 [vP (3, n, k, [])]) E7.zero.L E7.zero.L, nI 0, nI 0]) := by
  have hn' : -9223372036854775808 ≤ n ∧ n ≤ 9223372036854775807 := by omega
  obtain ⟨hd1, hd2⟩ := wh_digit hn' hk
  obtain ⟨hl1, hl⟩ := dgN_len hn' hk
  have hpt : (ptT n k).all isDigit = true := by
    unfold ptT
    split
    · rfl
    · exact hd2
  have hptl : 1 ≤ (ptT n k).length ∧ (ptT n k).length ≤ 100 := by
    unfold ptT
    split
    · simp
    · rw [ptN_len hn' hk]; omega
  have hwl : 1 ≤ (whN n k).length ∧ (whN n k).length ≤ 100 := by unfold whN; rw [List.length_take]; omega
  have hm1 := meant_num a b true (by omega) (by omega) hn hk hm
  have hm2 := meant_num a b false (by omega) (by omega) hn hk hm
  have hW : (zer a ++ whN n k).all isDigit = true := by rw [List.all_append, zer_digit, hd1]; rfl
  have hP : (ptT n k ++ zer b).all isDigit = true := by rw [List.all_append, zer_digit, hpt]; rfl
  have hWl : 1 ≤ (zer a ++ whN n k).length ∧ (zer a ++ whN n k).length ≤ 200 := by simp [zer]; omega
  have hPl : 1 ≤ (ptT n k ++ zer b).length ∧ (ptT n k ++ zer b).length ≤ 200 := by simp [zer]; omega
  unfold snText decW
  generalize zer a ++ whN n k = W at *
  generalize ptT n k ++ zer b = P at *
  obtain ⟨c, w, rfl⟩ : ∃ c w, W = c :: w := by
    cases W with
    | nil => simp at hWl
    | cons c w => exact ⟨c, w, rfl⟩
  obtain ⟨d, p, rfl⟩ : ∃ d p, P = d :: p := by
    cases P with
    | nil => simp at hPl
    | cons d p => exact ⟨d, p, rfl⟩
  simp only [List.length_cons] at hWl hPl
  have hm3 : (mkW 3).length = 1 := rfl
  by_cases h0 : n ≥ 0
  · have hs : sgnL n = [] := if_pos h0
    rw [hs, List.nil_append]
    obtain ⟨s, hs⟩ : ∃ s, s = insB ++ (32 :: (((c :: w) ++ 46 :: d :: p) ++ [41])) := ⟨_, rfl⟩
    rw [← hs]
    have hsl : s.length = 22 + (1 + ((w.length + 1 + (1 + (p.length + 1))) + 1)) := by rw [hs]; simp [insB]; omega
    have e22 : s.drop 22 = [32] ++ ((c :: w) ++ (46 :: ((d :: p) ++ [41]))) := by rw [hs]; simp [insB]
    have r1 := rd_dec (s := s) (by omega) (by omega) e22 rfl hW hP rfl hm1
    have e3 : s.drop (22 + 1 + (w.length + 1) + 1 + (p.length + 1)) = [] ++ (mkW 3 ++ []) := by
      have h1 := drop_more e22
      have h2 := drop_more (g := c :: w) h1
      have h3 := drop_more (g := [46]) h2
      have h4 := drop_more (g := d :: p) h3
      exact h4
    have r2 := rd_mark' (s := s) (by omega) (by omega) 3 (by decide) (by decide) e3 rfl
    have e4 := drop_more (g := mkW 3) (drop_more e3)
    have r3 := rd_end (s := s) (by omega) (by rw [hsl, hm3]; simp; omega) (g := []) e4 rfl
    have hv : mtV false (-(n.natAbs : Int)) = n := by show - -(n.natAbs : Int) = n; omega
    rw [hv] at hm2
    exact parse_ins (rest := 32 :: (((c :: w) ++ 46 :: d :: p) ++ [41])) hs (by omega) r1 (const_num 0 rfl hm2 r2) r3
  · have hs : sgnL n = [45] := if_neg h0
    rw [hs]
    obtain ⟨s, hs⟩ : ∃ s, s = insB ++ ([45] ++ (32 :: (((c :: w) ++ 46 :: d :: p) ++ [41]))) := ⟨_, rfl⟩
    rw [← hs]
    have hsl : s.length = 22 + (1 + (1 + ((w.length + 1 + (1 + (p.length + 1))) + 1))) := by rw [hs]; simp [insB]; omega
    have e22 : s.drop 22 = [] ++ (mkW 9 ++ (32 :: (((c :: w) ++ 46 :: d :: p) ++ [41]))) := by rw [hs]; rfl
    have r0 := rd_mark' (s := s) (by omega) (by omega) 9 (by decide) (by decide) e22 rfl
    have e23 : s.drop 23 = [32] ++ ((c :: w) ++ (46 :: ((d :: p) ++ [41]))) := by
      have := drop_more (g := mkW 9) (drop_more e22)
      have e : 22 + ([] : List UInt8).length + (mkW 9).length = 23 := rfl
      rw [e] at this
      rw [this]; simp
    have r1 := rd_dec (s := s) (by omega) (by omega) e23 rfl hW hP rfl hm1
    have e3 : s.drop (23 + 1 + (w.length + 1) + 1 + (p.length + 1)) = [] ++ (mkW 3 ++ []) := by
      have h1 := drop_more e23
      have h2 := drop_more (g := c :: w) h1
      have h3 := drop_more (g := [46]) h2
      have h4 := drop_more (g := d :: p) h3
      exact h4
    have r2 := rd_mark' (s := s) (by omega) (by omega) 3 (by decide) (by decide) e3 rfl
    have e4 := drop_more (g := mkW 3) (drop_more e3)
    have r3 := rd_end (s := s) (by omega) (by rw [hsl, hm3]; simp; omega) (g := []) e4 rfl
    have hv : mtV true (-(n.natAbs : Int)) = n := by show -(n.natAbs : Int) = n; omega
    rw [hv] at hm1
    exact parse_ins (rest := [45] ++ (32 :: (((c :: w) ++ 46 :: d :: p) ++ [41]))) hs (by omega) r0 (const_neg 0 rfl rfl rfl (by decide) (by decide) rfl r1 rfl hm1 r2) r3
end
end Go.Proofs.YtdlkibeljkapeaaGreatDoor.Den
