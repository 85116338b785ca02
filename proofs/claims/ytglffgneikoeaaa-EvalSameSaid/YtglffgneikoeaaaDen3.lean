import Derived.Test.YtglffgneikoeaaaDen2
namespace Go.Proofs.Ytglffgneikoeaaa.Den
open Go Go.RowKit Go.Proofs.Ytglffgneikoeaaa
theorem w58_kt : callF Try.prog (Tab.orc { bins := [(.rem, .atom 0, .atom 1, .atom 2), (.lss, .atom 2, .int .i64 0, .bool true), (.add, .atom 2, .atom 1, .atom 3)] }) 5 58 [.atom 0, .atom 1] [] = some (.atom 3, []) := by kernel_rfl
theorem w58_kf : callF Try.prog (Tab.orc { bins := [(.rem, .atom 0, .atom 1, .atom 2), (.lss, .atom 2, .int .i64 0, .bool false)] }) 5 58 [.atom 0, .atom 1] [] = some (.atom 2, []) := by kernel_rfl
theorem w58_ev (a n : Int) (hn : n ≠ 0) : Ev Try.prog 58 [.int .i64 a, .int .i64 n] (.int .i64 (wthn a n)) := by
  by_cases hc : a.tmod n < 0
  · have hnu : NuOk (nuL [.int .i64 a, .int .i64 n, .int .i64 (a.tmod n), .int .i64 (IntKind.i64.wrap (a.tmod n + n))]) := nuL_ok (by simp [PV.clean, PV.pure])
    have := Ev.of prog_ok hnu (TabOk.orc hnu (((emptyTab_ok _ _).bin (.int (k := .i64) (a := a.tmod n) (b := n) (by decide) (by decide) rfl rfl rfl)).bin (.int (k := .i64) (a := a.tmod n) (b := 0) (by decide) (by decide) rfl rfl (by simp [intP, hc, sub0])) |>.bin (.int (k := .i64) (a := a) (b := n) (by decide) (by decide) rfl rfl (by simp [intP, hn, sub0, nuL])))) w58_kt (by simp [sub1, sub0, nuL, PV.pure, PV.shut, PV.clean, PV.one]) rfl rfl
    have e : wthn a n = IntKind.i64.wrap (a.tmod n + n) := if_pos hc
    rw [e]
    exact this
  · have hnu : NuOk (nuL [.int .i64 a, .int .i64 n, .int .i64 (a.tmod n)]) := nuL_ok (by simp [PV.clean, PV.pure])
    have := Ev.of prog_ok hnu (TabOk.orc hnu (((emptyTab_ok _ _).bin (.int (k := .i64) (a := a.tmod n) (b := 0) (by decide) (by decide) rfl rfl (by simp [intP, hc, sub0]))).bin (.int (k := .i64) (a := a) (b := n) (by decide) (by decide) rfl rfl (by simp [intP, hn, sub0, nuL])))) w58_kf (by simp [sub1, sub0, nuL, PV.pure, PV.shut, PV.clean, PV.one]) rfl rfl
    have e : wthn a n = a.tmod n := if_neg hc
    rw [e]
    exact this
/-- A value of no text, by its kind and its number. -/
def mkV (ty : Int) (p : PV) : PV := .agg [.int .i64 ty, p, .int .i64 0, .str []]
def mkT (ty : Int) (j : Int) : Tab := { prims := [(58, [.atom 0, .int .i64 6], .int .i64 ty), (58, [.atom 2, .int .i64 8], .int .i64 j), (58, [.atom 1, .int .i64 2], .atom 3), (58, [.atom 1, .int .i64 100], .atom 4)], bins := [(.quo, .atom 0, .int .i64 6, .atom 2), (.sub, .atom 4, .int .i64 50, .atom 5)] }
def mkR (j : Nat) : PV := ([.atom 1, .int .i64 0, .int .i64 1, .int .i64 (-1), .int .i64 9223372036854775807, .int .i64 (-9223372036854775808), .atom 5, .int .i64 7] : List PV).getD j .any
theorem mk_k : ((List.range 8).all fun j => okR (mkV 2 (mkR j)) (callF Try.prog (mkT 2 j).orc 60 45 [.atom 0, .atom 1, .str []] [])) = true := by kernel_rfl
theorem mk_kb : ((List.range 8).all fun j => okR (mkV 1 (.atom 3)) (callF Try.prog (mkT 1 j).orc 60 45 [.atom 0, .atom 1, .str []] [])) = true := by kernel_rfl
theorem make_ev (c n ty : Int) (hty : ty = 1 ∨ ty = 2) (hc : wthn c 6 = ty) : ∃ N : Int, Ev Try.prog 45 [.int .i64 c, .int .i64 n, .str []] (mkV ty (.int .i64 N)) := by
  obtain ⟨h1, h2⟩ := wthn_range (IntKind.i64.wrap (c.tdiv 6)) 8 (by decide) (by decide)
  obtain ⟨j, hj⟩ : ∃ j : Nat, wthn (IntKind.i64.wrap (c.tdiv 6)) 8 = j := ⟨(wthn (IntKind.i64.wrap (c.tdiv 6)) 8).toNat, by omega⟩
  have hj8 : j ∈ List.range 8 := by rw [List.mem_range]; omega
  let l : List PV := [.int .i64 c, .int .i64 n, .int .i64 (IntKind.i64.wrap (c.tdiv 6)), .int .i64 (wthn n 2), .int .i64 (wthn n 100), .int .i64 (IntKind.i64.wrap (wthn n 100 - 50))]
  have hnu : NuOk (nuL l) := nuL_ok (by simp [l, PV.clean, PV.pure])
  have e1 := w58_ev c 6 (by decide)
  have e2 := w58_ev (IntKind.i64.wrap (c.tdiv 6)) 8 (by decide)
  have e3 := w58_ev n 2 (by decide)
  have e4 := w58_ev n 100 (by decide)
  rw [hc] at e1
  rw [hj] at e2
  have hT : TabOk Try.prog (nuL l) (mkT ty j) := ((((((emptyTab_ok _ _).bin (op := .sub) (x := .atom 4) (y := .int .i64 50) (r := .atom 5) (binK (by decide) (by decide) rfl rfl rfl)).bin (op := .quo) (x := .atom 0) (y := .int .i64 6) (r := .atom 2) (binK (by decide) (by decide) rfl rfl rfl)).prim (args := [.atom 1, .int .i64 100]) (r := .atom 4) e4 rfl rfl rfl rfl).prim (args := [.atom 1, .int .i64 2]) (r := .atom 3) e3 rfl rfl rfl rfl).prim (args := [.atom 2, .int .i64 8]) e2 rfl rfl rfl trivial).prim (args := [.atom 0, .int .i64 6]) e1 rfl rfl rfl trivial
  have hargs : ∀ p ∈ ([.atom 0, .atom 1, .str []] : List PV), (sub1 (nuL l) p).pure = true ∧ p.shut = true ∧ ∀ i, p = .atom i → (nuL l i).one = true := by simp [l, sub1, sub0, nuL, PV.pure, PV.shut, PV.clean, PV.one]
  rcases hty with rfl | rfl
  · exact ⟨wthn n 2, Ev.of prog_ok hnu (TabOk.orc hnu hT) (okR_eq (List.all_eq_true.1 mk_kb j hj8)) hargs rfl rfl⟩
  · have h := okR_eq (List.all_eq_true.1 mk_k j hj8)
    have hj' : j = 0 ∨ j = 1 ∨ j = 2 ∨ j = 3 ∨ j = 4 ∨ j = 5 ∨ j = 6 ∨ j = 7 := by omega
    have fin : ∀ p N, mkR j = p → sub0 (nuL l) p = .int .i64 N → ∃ N : Int, Ev Try.prog 45 [.int .i64 c, .int .i64 n, .str []] (mkV 2 (.int .i64 N)) := fun p N hp hN => by
      rw [hp] at h
      have e : sub2 (nuL l) (mkV 2 p) = mkV 2 (.int .i64 N) := by
        show PV.agg [.int .i64 2, sub0 (nuL l) p, .int .i64 0, .str []] = _
        rw [hN]; rfl
      have := Ev.of prog_ok hnu (TabOk.orc hnu hT) h hargs (by rw [e]; rfl) (by rw [e]; rfl)
      rw [e] at this
      exact ⟨N, this⟩
    rcases hj' with rfl | rfl | rfl | rfl | rfl | rfl | rfl | rfl
    all_goals exact fin _ _ rfl rfl
end Go.Proofs.Ytglffgneikoeaaa.Den
namespace Go.Proofs.Ytglffgneikoeaaa.Den
open Go Go.RowKit Go.Proofs.Ytglffgneikoeaaa
/-- cols()'s table. -/
def colP (c : UInt8) (ty : Int) : PV := .agg [.str [c], .int .i64 ty, .bool false]
def tb : PV := .agg [.str [116], .slice 3 [colP 97 2, colP 98 2, colP 99 1, colP 100 1], .int .i64 0, .nilslice, .int .i64 0, .str [], .int .i64 0, .int .i64 0, .int .i64 0, .str [], .nilslice, .nilslice]
theorem tb_k : callF Try.prog noOrc 60 24 [] [] = some (tb, []) := by kernel_rfl
def tyOf (i : Nat) : Int := if i < 2 then 2 else 1
/-- What is asked of the i-th number, x: n = within(x, 2^40). -/
def cbins (i : Nat) (g : Bool) : List (BinOp × PV × PV × PV) :=
  [(.lss, .int .i64 i, .atom 1, .bool true), (.rem, .atom (6 + i), .int .i64 7, .atom (10 + i)), (.gtr, .atom (10 + i), .int .i64 0, .bool g), (.quo, .atom (6 + i), .int .i64 7, .atom (14 + i)), (.rem, .atom (14 + i), .int .i64 30, .atom (18 + i)),
   (.mul, .int .i64 6, .atom (18 + i), .atom (22 + i)), (.add, .int .i64 (tyOf i), .atom (22 + i), .atom (26 + i)), (.quo, .atom (6 + i), .int .i64 50, .atom (30 + i)), (.rem, .atom (30 + i), .int .i64 200, .atom (34 + i)), (.sub, .atom (34 + i), .int .i64 100, .atom (38 + i))]
def cprims (i : Nat) : List (FuncId × List PV × PV) := [(29, [.atom (2 + i), .int .i64 1099511627776], .atom (6 + i)), (45, [.atom (26 + i), .atom (38 + i), .str []], mkV (tyOf i) (.atom (42 + i)))]
/-- m numbers are there (4: or more), of which these are no nulls. -/
def rowTab (m : Nat) (g : Nat → Bool) : Tab :=
  { prims := (List.range m).flatMap cprims, bins := (List.range m).flatMap (fun i => cbins i (g i)) ++ (List.range (4 - m)).map (fun k => (.lss, .int .i64 (m + k : Nat), .atom 1, .bool false)),
    lens := [(22, .atom 0, .atom 1)], ixs := (List.range m).map fun (i : Nat) => (22, .atom 0, (i : Int), .atom (2 + i)) }
/-- The values that the row has. -/
def dflt (i : Nat) : PV := ([mkV 0 (.int .i64 0), mkV 2 (.int .i64 (-100)), mkV 1 (.int .i64 0), mkV 1 (.int .i64 0)] : List PV).getD i .any
def valOf (m : Nat) (g : Nat → Bool) (i : Nat) : PV := if i < m then (if g i then mkV (tyOf i) (.atom (42 + i)) else mkV 0 (.int .i64 0)) else dflt i
def bitsG (k : Nat) (i : Nat) : Bool := k.testBit i
def lastRow : Option (PV × List Res) → Option (TypeId × Nat × Nat × List PV)
  | some (.ms i n, s) => match s[i]? with | some (.row e sz m cs) => if n = m then some (e, sz, n, cs) else none | _ => none
  | _ => none
def cellsOfV : PV → List PV
  | .agg cs => cs
  | p => [p]
def rowCells (m : Nat) (g : Nat → Bool) : List PV := (List.range 4).flatMap fun i => cellsOfV (valOf m g i)
def okRow (cs : List PV) : Option (PV × List Res) → Bool
  | some (.ms i n, s) => match s[i]? with | some (.row e sz m cs') => n == 4 && (m == 4 && (e == 28 && (sz == 4 && PV.sameL cs' cs))) | _ => false
  | _ => false
theorem okRow_eq {cs : List PV} {o : Option (PV × List Res)} (h : okRow cs o = true) : ∃ i s, o = some (.ms i 4, s) ∧ s[i]? = some (.row 28 4 4 cs) := by
  unfold okRow at h
  split at h
  · rename_i i n s
    split at h
    · rename_i e sz m cs' hr
      simp only [Bool.and_eq_true, beq_iff_eq] at h
      obtain ⟨rfl, rfl, rfl, rfl, h5⟩ := h
      exact ⟨i, s, rfl, by rw [hr, sameL_eq _ _ h5]⟩
    · cases h
  · cases h
theorem row_k : ((List.range 5).all fun m => (List.range 16).all fun b => (b / 2 ^ m != 0) || okRow (rowCells m (bitsG b)) (callB Try.prog (rowTab m (bitsG b)).orc (callF Try.prog (rowTab m (bitsG b)).orc 60) 60 18 [tb, .atom 0, .str []] [])) = true := by kernel_rfl
end Go.Proofs.Ytglffgneikoeaaa.Den
