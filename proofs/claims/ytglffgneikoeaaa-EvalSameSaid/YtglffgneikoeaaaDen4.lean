import Derived.Test.YtglffgneikoeaaaDen3
namespace Go.Proofs.Ytglffgneikoeaaa.Den
open Go Go.RowKit Go.Proofs.Ytglffgneikoeaaa
theorem bits_b : ((List.range 5).all fun m => bl fun g0 => bl fun g1 => bl fun g2 => bl fun g3 => (List.range 16).any fun b => b / 2 ^ m == 0 && ((Nat.ble m 0 || bitsG b 0 == g0) && ((Nat.ble m 1 || bitsG b 1 == g1) && ((Nat.ble m 2 || bitsG b 2 == g2) && (Nat.ble m 3 || bitsG b 3 == g3))))) = true := by kernel_rfl
theorem bits_k (m : Nat) (hm : m < 5) (g : Nat → Bool) : ∃ b, b < 16 ∧ b / 2 ^ m = 0 ∧ ∀ i, i < m → bitsG b i = g i := by
  have h := bl_all (bl_all (bl_all (bl_all (List.all_eq_true.1 bits_b m (by rw [List.mem_range]; omega)) (g 0)) (g 1)) (g 2)) (g 3)
  obtain ⟨b, hb, h⟩ := List.any_eq_true.1 h
  rw [List.mem_range] at hb
  simp only [Bool.and_eq_true, beq_iff_eq, Bool.or_eq_true, Nat.ble_eq] at h
  obtain ⟨h1, h2, h3, h4, h5⟩ := h
  refine ⟨b, hb, h1, fun i hi => ?_⟩
  have : i = 0 ∨ i = 1 ∨ i = 2 ∨ i = 3 := by omega
  rcases this with rfl | rfl | rfl | rfl
  · rcases h2 with h | h
    · omega
    · exact h
  · rcases h3 with h | h
    · omega
    · exact h
  · rcases h4 with h | h
    · omega
    · exact h
  · rcases h5 with h | h
    · omega
    · exact h
abbrev w6 (n : Int) : Int := IntKind.i64.wrap n
def cn (xs : List Int) (i : Nat) : Int := wthn (xs.getD i 0) 1099511627776
def c26 (xs : List Int) (i : Nat) : Int := w6 (tyOf i + w6 (6 * (w6 ((cn xs i).tdiv 7)).tmod 30))
def c38 (xs : List Int) (i : Nat) : Int := w6 ((w6 ((cn xs i).tdiv 50)).tmod 200 - 100)
def rowL (mv : PV) (xs : List Int) (N : Nat → Int) : List PV :=
  [mv, .int .i64 xs.length, .int .i64 (xs.getD 0 0), .int .i64 (xs.getD 1 0), .int .i64 (xs.getD 2 0), .int .i64 (xs.getD 3 0), .int .i64 (cn xs 0), .int .i64 (cn xs 1), .int .i64 (cn xs 2), .int .i64 (cn xs 3), .int .i64 ((cn xs 0).tmod 7), .int .i64 ((cn xs 1).tmod 7), .int .i64 ((cn xs 2).tmod 7), .int .i64 ((cn xs 3).tmod 7), .int .i64 (w6 ((cn xs 0).tdiv 7)), .int .i64 (w6 ((cn xs 1).tdiv 7)), .int .i64 (w6 ((cn xs 2).tdiv 7)), .int .i64 (w6 ((cn xs 3).tdiv 7)), .int .i64 ((w6 ((cn xs 0).tdiv 7)).tmod 30), .int .i64 ((w6 ((cn xs 1).tdiv 7)).tmod 30), .int .i64 ((w6 ((cn xs 2).tdiv 7)).tmod 30), .int .i64 ((w6 ((cn xs 3).tdiv 7)).tmod 30), .int .i64 (w6 (6 * (w6 ((cn xs 0).tdiv 7)).tmod 30)), .int .i64 (w6 (6 * (w6 ((cn xs 1).tdiv 7)).tmod 30)), .int .i64 (w6 (6 * (w6 ((cn xs 2).tdiv 7)).tmod 30)), .int .i64 (w6 (6 * (w6 ((cn xs 3).tdiv 7)).tmod 30)), .int .i64 (c26 xs 0), .int .i64 (c26 xs 1), .int .i64 (c26 xs 2), .int .i64 (c26 xs 3), .int .i64 (w6 ((cn xs 0).tdiv 50)), .int .i64 (w6 ((cn xs 1).tdiv 50)), .int .i64 (w6 ((cn xs 2).tdiv 50)), .int .i64 (w6 ((cn xs 3).tdiv 50)), .int .i64 ((w6 ((cn xs 0).tdiv 50)).tmod 200), .int .i64 ((w6 ((cn xs 1).tdiv 50)).tmod 200), .int .i64 ((w6 ((cn xs 2).tdiv 50)).tmod 200), .int .i64 ((w6 ((cn xs 3).tdiv 50)).tmod 200), .int .i64 (c38 xs 0), .int .i64 (c38 xs 1), .int .i64 (c38 xs 2), .int .i64 (c38 xs 3), .int .i64 (N 0), .int .i64 (N 1), .int .i64 (N 2), .int .i64 (N 3)]
theorem ty_within (xs : List Int) (i : Nat) : wthn (c26 xs i) 6 = tyOf i := by
  obtain ⟨h1, h2⟩ := wthn_range (xs.getD i 0) 1099511627776 (by decide) (by decide)
  have hq : (cn xs i).tdiv 7 = cn xs i / 7 := Int.tdiv_eq_ediv_of_nonneg h1
  have h1' : 0 ≤ cn xs i ∧ cn xs i < 1099511627776 := ⟨h1, h2⟩
  have ht : tyOf i = 2 ∨ tyOf i = 1 := by unfold tyOf; split <;> simp
  have e1 : w6 (cn xs i / 7) = cn xs i / 7 := Go.IntWalk.i64_in _ (by omega)
  have e2 : (cn xs i / 7).tmod 30 = cn xs i / 7 % 30 := Int.tmod_eq_emod_of_nonneg (by omega)
  have e3 : w6 (6 * (cn xs i / 7 % 30)) = 6 * (cn xs i / 7 % 30) := Go.IntWalk.i64_in _ (by omega)
  have e4 : c26 xs i = tyOf i + 6 * (cn xs i / 7 % 30) := by
    unfold c26
    rw [hq, e1, e2, e3]
    exact Go.IntWalk.i64_in _ (by omega)
  rw [e4]
  unfold wthn
  have e5 : (tyOf i + 6 * (cn xs i / 7 % 30)).tmod 6 = tyOf i := by
    rw [Int.tmod_eq_emod_of_nonneg (by omega)]; omega
  rw [e5, if_neg (by omega)]
theorem len_ok {mv : PV} {xs : List Int} (hmv : mv = .slice 1 (xs.map (.int .i64)) ∨ (mv = .nilslice ∧ xs = [])) : lenP Try.prog 22 mv = some (.int .i64 xs.length) := by
  have hu : Try.prog.underlying 22 = some (.slice 3) := by kernel_rfl
  unfold lenP
  rw [hu]
  rcases hmv with rfl | ⟨rfl, rfl⟩
  · simp
  · rfl
theorem ix_ok {mv : PV} {xs : List Int} (hmv : mv = .slice 1 (xs.map (.int .i64)) ∨ (mv = .nilslice ∧ xs = [])) {i : Nat} (hi : i < xs.length) : indexAddrP Try.prog 22 mv (.int .i64 i) = some (.ref [.int .i64 (xs.getD i 0)]) := by
  have hu : Try.prog.underlying 22 = some (.slice 3) := by kernel_rfl
  have hs : sizeP Try.prog 3 = some 1 := by kernel_rfl
  unfold indexAddrP
  rw [hu]
  rcases hmv with rfl | ⟨rfl, rfl⟩
  · have : (xs.map (PV.int .i64))[((i : Nat) : Int).toNat]? = some (.int .i64 (xs.getD i 0)) := by
      simp [hi]
    simp only [hs, true_and]
    rw [if_pos (by omega), this]
    rfl
  · simp at hi
theorem prim_ok {P : Program} {nu : Nat → PV} {g : FuncId} {args : List PV} {r : PV} (hg : Ev P g (args.map (sub1 nu)) (sub2 nu r))
    (h1 : PV.pureL (args.map (sub1 nu)) = true) (h2 : (sub2 nu r).pure = true) (h3 : r.shut2 = true) (h4 : match r with | .atom j => (nu j).one = true | .tup vs => vs.all (fun | .atom j => (nu j).one | _ => true) = true | _ => True) :
    Ev P g (args.map (sub1 nu)) (sub2 nu r) ∧ (∀ p ∈ args, (sub1 nu p).pure = true) ∧ (sub2 nu r).pure = true ∧ r.shut2 = true ∧ (∀ j, r = .atom j → (nu j).one = true) ∧ (∀ vs, r = .tup vs → ∀ j, PV.atom j ∈ vs → (nu j).one = true) :=
  ((emptyTab_ok P nu (ow := fun _ _ => false)).prim hg h1 h2 h3 h4).prims _ _ _ (by simp)
theorem rowTab_ok {mv : PV} {xs : List Int} (hmv : mv = .slice 1 (xs.map (.int .i64)) ∨ (mv = .nilslice ∧ xs = [])) {m b : Nat} (hm : m = min xs.length 4) (hb : ∀ i, i < m → bitsG b i = decide ((cn xs i).tmod 7 > 0)) {N : Nat → Int}
    (hN : ∀ i, Ev Try.prog 45 [.int .i64 (c26 xs i), .int .i64 (c38 xs i), .str []] (mkV (tyOf i) (.int .i64 (N i)))) : TabOk Try.prog (nuL (rowL mv xs N)) (rowTab m (bitsG b)) := by
  have four : ∀ i, i < m → (i = 0 ∨ i = 1 ∨ i = 2 ∨ i = 3) ∧ i < xs.length := fun i hi => by omega
  refine { prims := fun g args r h => ?_, bins := fun op x y r h => ?_, eqs := fun _ _ _ _ _ h => by simp [rowTab] at h, rows := fun _ _ _ _ _ _ h => by simp [rowTab] at h, lens := fun ty x r h => ?_, ixs := fun ty x i c h => ?_ }
  · simp only [rowTab, List.mem_flatMap, List.mem_range] at h
    obtain ⟨i, hi, h⟩ := h
    simp only [cprims, List.mem_cons, List.not_mem_nil, or_false, Prod.mk.injEq] at h
    have hw := within_ev (xs.getD i 0) 1099511627776 (by decide)
    have hmk := hN i
    rcases h with ⟨rfl, rfl, rfl⟩ | ⟨rfl, rfl, rfl⟩
    · rcases (four i hi).1 with rfl | rfl | rfl | rfl <;> exact prim_ok hw rfl rfl rfl rfl
    · rcases (four i hi).1 with rfl | rfl | rfl | rfl <;> exact prim_ok hmk rfl rfl rfl trivial
  · simp only [rowTab, List.mem_append, List.mem_flatMap, List.mem_map, List.mem_range] at h
    rcases h with ⟨i, hi, h⟩ | ⟨k, hk, h⟩
    · have h5 := hb i hi
      obtain ⟨h6, h7⟩ := four i hi
      have h8 : decide ((i : Int) < (xs.length : Int)) = true := by simpa using h7
      simp only [cbins, List.mem_cons, List.not_mem_nil, or_false, Prod.mk.injEq] at h
      rcases h6 with rfl | rfl | rfl | rfl <;> rcases h with ⟨rfl, rfl, rfl, rfl⟩ | ⟨rfl, rfl, rfl, rfl⟩ | ⟨rfl, rfl, rfl, rfl⟩ | ⟨rfl, rfl, rfl, rfl⟩ | ⟨rfl, rfl, rfl, rfl⟩ | ⟨rfl, rfl, rfl, rfl⟩ | ⟨rfl, rfl, rfl, rfl⟩ | ⟨rfl, rfl, rfl, rfl⟩ | ⟨rfl, rfl, rfl, rfl⟩ | ⟨rfl, rfl, rfl, rfl⟩
      all_goals first
        | exact binK (by decide) (by decide) rfl rfl rfl
        | exact binK (by decide) (by decide) rfl rfl (congrArg (fun t => some (PV.bool t)) h8)
        | exact binK (by decide) (by decide) rfl rfl (congrArg (fun t => some (PV.bool t)) h5.symm)
    · simp only [Prod.mk.injEq] at h
      obtain ⟨rfl, rfl, rfl, rfl⟩ := h
      have h8 : decide (((m + k : Nat) : Int) < (xs.length : Int)) = false := by simp; omega
      exact binK (by decide) (by decide) rfl rfl (congrArg (fun t => some (PV.bool t)) h8)
  · simp only [rowTab, List.mem_cons, List.not_mem_nil, or_false, Prod.mk.injEq] at h
    obtain ⟨rfl, rfl, rfl⟩ := h
    exact ⟨len_ok hmv, rfl⟩
  · simp only [rowTab, List.mem_map, List.mem_range, Prod.mk.injEq] at h
    obtain ⟨i, hi, rfl, rfl, rfl, rfl⟩ := h
    obtain ⟨h6, h7⟩ := four i hi
    have h8 := ix_ok hmv h7
    rcases h6 with rfl | rfl | rfl | rfl <;> exact ⟨h8, rfl, rfl⟩
end Go.Proofs.Ytglffgneikoeaaa.Den
namespace Go.Proofs.Ytglffgneikoeaaa.Den
open Go Go.RowKit Go.Proofs.Ytglffgneikoeaaa
/-- A row's value: null, or of its column's type. -/
def rv1 (z : Bool) (i : Nat) (n : Int) : List PV := match z with
  | true => [.int .i64 0, .int .i64 0, .int .i64 0, .str []]
  | false => [.int .i64 (tyOf i), .int .i64 n, .int .i64 0, .str []]
def rv (z : Nat → Bool) (n : Nat → Int) : List PV := (List.range 4).flatMap fun i => rv1 (z i) i (n i)
theorem rv_clean (z : Nat → Bool) (n : Nat → Int) : ∀ c ∈ rv z n, c.pure = true ∧ c.clean = true := by
  intro c hc
  simp only [rv, List.mem_flatMap] at hc
  obtain ⟨i, _, hc⟩ := hc
  unfold rv1 at hc
  split at hc
  all_goals
    simp only [List.mem_cons, List.not_mem_nil, or_false] at hc
    rcases hc with rfl | rfl | rfl | rfl <;> exact ⟨rfl, rfl⟩
theorem map_flat {α β γ : Type} (f : β → γ) (g : α → List β) : ∀ l : List α, (l.flatMap g).map f = l.flatMap fun a => (g a).map f
  | [] => rfl
  | a :: l => by simp [List.flatMap_cons, map_flat f g l]
theorem flat_congr {α β : Type} {f g : α → List β} : ∀ {l : List α}, (∀ a ∈ l, f a = g a) → l.flatMap f = l.flatMap g
  | [], _ => rfl
  | a :: l, h => by rw [List.flatMap_cons, List.flatMap_cons, h a (by simp), flat_congr fun x hx => h x (by simp [hx])]
theorem row_ev {mv : PV} {xs : List Int} (hmv : mv = .slice 1 (xs.map (.int .i64)) ∨ (mv = .nilslice ∧ xs = [])) : ∃ z n, EvRow Try.prog 18 [tb, mv, .str []] 28 4 4 (rv z n) := by
  obtain ⟨N, hN⟩ := Classical.axiomOfChoice (r := fun i N => Ev Try.prog 45 [.int .i64 (c26 xs i), .int .i64 (c38 xs i), .str []] (mkV (tyOf i) (.int .i64 N)))
    (fun i => make_ev (c26 xs i) (c38 xs i) (tyOf i) (by unfold tyOf; split <;> simp) (ty_within xs i))
  obtain ⟨m, hm⟩ : ∃ m, m = min xs.length 4 := ⟨_, rfl⟩
  obtain ⟨b, hb1, hb2, hb3⟩ := bits_k m (by omega) (fun i => decide ((cn xs i).tmod 7 > 0))
  have hT := rowTab_ok hmv hm hb3 hN
  have hmvc : mv.clean = true ∧ mv.pure = true := by
    rcases hmv with rfl | ⟨rfl, _⟩
    · refine ⟨?_, ?_⟩
      · first | rfl | (simp only [PV.clean]; done) | (simp [PV.clean])
      · simp only [PV.pure]
        clear hT hN hm hb3
        induction xs with
        | nil => rfl
        | cons x xs ih => simp only [List.map_cons, PV.pureL, PV.pure, ih, Bool.and_self]
    · exact ⟨rfl, rfl⟩
  have hnu : NuOk (nuL (rowL mv xs N)) := nuL_ok (by
    intro p hp
    simp only [rowL, List.mem_cons, List.not_mem_nil, or_false] at hp
    rcases hp with rfl | hp
    · exact hmvc
    · have : ∃ k n, p = .int k n := by
        rcases hp with rfl | rfl | rfl | rfl | rfl | rfl | rfl | rfl | rfl | rfl | rfl | rfl | rfl | rfl | rfl | rfl | rfl | rfl | rfl | rfl | rfl | rfl | rfl | rfl | rfl | rfl | rfl | rfl | rfl | rfl | rfl | rfl | rfl | rfl | rfl | rfl | rfl | rfl | rfl | rfl | rfl | rfl | rfl | rfl | rfl <;> exact ⟨_, _, rfl⟩
      obtain ⟨k, n, rfl⟩ := this
      exact ⟨rfl, rfl⟩)
  have hk := List.all_eq_true.1 (List.all_eq_true.1 row_k m (by rw [List.mem_range]; omega)) b (by rw [List.mem_range]; omega)
  rw [hb2] at hk
  obtain ⟨i, s, h1, h2⟩ := okRow_eq (by simpa using hk)
  let z : Nat → Bool := fun i => if i < m then !(bitsG b i) else i == 0
  let n : Nat → Int := fun i => if i < m then N i else if i = 1 then -100 else 0
  have hcells : (rowCells m (bitsG b)).map (sub0 (nuL (rowL mv xs N))) = rv z n := by
    unfold rowCells rv
    rw [map_flat]
    refine flat_congr fun i hi => ?_
    have hi4 : i = 0 ∨ i = 1 ∨ i = 2 ∨ i = 3 := by rw [List.mem_range] at hi; omega
    show (cellsOfV (valOf m (bitsG b) i)).map _ = rv1 (if i < m then !(bitsG b i) else i == 0) i (if i < m then N i else if i = 1 then -100 else 0)
    unfold valOf
    by_cases hlt : i < m
    · rw [if_pos hlt, if_pos hlt, if_pos hlt]
      cases bitsG b i <;> rcases hi4 with rfl | rfl | rfl | rfl <;> rfl
    · rw [if_neg hlt, if_neg hlt, if_neg hlt]
      rcases hi4 with rfl | rfl | rfl | rfl <;> rfl
  have hmem : ∀ c ∈ rowCells m (bitsG b), sub0 (nuL (rowL mv xs N)) c ∈ rv z n := fun c hc => by rw [← hcells]; exact List.mem_map_of_mem hc
  have := EvRow.of prog_ok hnu (TabOk.orc hnu hT) h1 h2 (by
    intro p hp
    simp only [List.mem_cons, List.not_mem_nil, or_false] at hp
    rcases hp with rfl | rfl | rfl
    · exact ⟨rfl, rfl, fun i hi => by cases hi⟩
    · refine ⟨hmvc.2, rfl, fun i hi => ?_⟩
      cases hi
      show mv.one = true
      rcases hmv with rfl | ⟨rfl, _⟩ <;> rfl
    · exact ⟨rfl, rfl, fun i hi => by cases hi⟩) (fun c hc => rv_clean z n _ (hmem c hc))
  rw [hcells] at this
  exact ⟨z, n, this⟩
end Go.Proofs.Ytglffgneikoeaaa.Den
namespace Go.Proofs.Ytglffgneikoeaaa.Den
open Go Go.RowKit Go.Proofs.Ytglffgneikoeaaa
def aCells (k : Nat) (z : Bool) : List PV := (List.range 4).flatMap fun i => if i = k then (match z with | true => [.int .i64 0, .int .i64 0, .int .i64 0, .str []] | false => [.int .i64 (tyOf i), .atom 3, .int .i64 0, .str []]) else (List.range 4).map fun j => .atom (4 + 4 * i + j)
def bCells : List PV := (List.range 16).map fun j => .atom (20 + j)
def selfB : List (BinOp × PV × PV × PV) := [(.neq, .atom 3, .atom 3, .bool false), (.eql, .atom 3, .atom 3, .bool true), (.lss, .atom 3, .atom 3, .bool false), (.gtr, .atom 3, .atom 3, .bool false), (.leq, .atom 3, .atom 3, .bool true), (.geq, .atom 3, .atom 3, .bool true)]
def sameT (k : Nat) (z : Bool) : Tab := { prims := [(29, [.atom 2, .int .i64 4], .int .i64 k)], bins := selfB, rows := [(18, [tb, .atom 0, .str []], 28, 4, 4, aCells k z), (18, [tb, .atom 1, .str []], 28, 4, 4, bCells)] }
def okT : Option (PV × List Res) → Bool
  | some (.bool true, []) => true
  | _ => false
theorem same_k : ((List.range 4).all fun k => bl fun z => okT (callF Try.prog (sameT k z).orc 60 11 [.atom 0, .atom 1, .atom 2] [])) = true := by kernel_rfl
end Go.Proofs.Ytglffgneikoeaaa.Den
namespace Go.Proofs.Ytglffgneikoeaaa.Den
open Go Go.RowKit Go.Proofs.Ytglffgneikoeaaa
theorem okT_eq {o : Option (PV × List Res)} (h : okT o = true) : o = some (.bool true, []) := by
  unfold okT at h
  split at h
  · rfl
  · cases h
/-- What the atoms of the law stand for: the slices, the place; the row's number there; both rows' cells. -/
def sameL (mv nv : PV) (a : Int) (k : Nat) (za zb : Nat → Bool) (na nb : Nat → Int) : List PV := [mv, nv, .int .i64 a, .int .i64 (na k)] ++ rv za na ++ rv zb nb
theorem a_cells (mv nv : PV) (a : Int) (k : Nat) (hk : k < 4) (za zb : Nat → Bool) (na nb : Nat → Int) : (aCells k (za k)).map (sub0 (nuL (sameL mv nv a k za zb na nb))) = rv za na := by
  have h : k = 0 ∨ k = 1 ∨ k = 2 ∨ k = 3 := by omega
  unfold sameL aCells
  rcases h with rfl | rfl | rfl | rfl <;> unfold rv <;> simp only [List.range_succ, List.range_zero, List.nil_append, List.cons_append, List.flatMap_cons, List.flatMap_nil]
  all_goals
    cases za 0 <;> cases za 1 <;> cases za 2 <;> cases za 3 <;> rfl
theorem rv_len (z : Nat → Bool) (n : Nat → Int) : (rv z n).length = 16 := by
  have h : ∀ i, (rv1 (z i) i (n i)).length = 4 := fun i => by unfold rv1; cases z i <;> rfl
  unfold rv
  simp only [List.range_succ, List.range_zero, List.nil_append, List.cons_append, List.flatMap_cons, List.flatMap_nil, List.length_append, h, List.length_nil]
theorem b_cells (mv nv : PV) (a : Int) (k : Nat) (za zb : Nat → Bool) (na nb : Nat → Int) : bCells.map (sub0 (nuL (sameL mv nv a k za zb na nb))) = rv zb nb := by
  have ha := rv_len za na
  have hb := rv_len zb nb
  refine List.ext_getElem? fun j => ?_
  unfold bCells
  rw [List.map_map, List.getElem?_map]
  by_cases hj : j < 16
  · rw [List.getElem?_range hj]
    show some ((sameL mv nv a k za zb na nb).getD (20 + j) (.bool false)) = _
    unfold sameL
    rw [List.getD_eq_getElem?_getD, List.getElem?_append_right (by simp [ha]), show 20 + j - ([mv, nv, PV.int .i64 a, PV.int .i64 (na k)] ++ rv za na).length = j from by simp [ha], List.getElem?_eq_getElem (by omega)]
    rfl
  · rw [List.getElem?_eq_none (by simp; omega), List.getElem?_eq_none (by omega)]; rfl
end Go.Proofs.Ytglffgneikoeaaa.Den
namespace Go.Proofs.Ytglffgneikoeaaa.Den
open Go Go.RowKit Go.Proofs.Ytglffgneikoeaaa
theorem same_ev {mv nv : PV} {xs ys : List Int} (hmv : mv = .slice 1 (xs.map (.int .i64)) ∨ (mv = .nilslice ∧ xs = [])) (hnv : nv = .slice 1 (ys.map (.int .i64)) ∨ (nv = .nilslice ∧ ys = [])) (a : Int) : Ev Try.prog 11 [mv, nv, .int .i64 a] (.bool true) := by
  have hpc : ∀ {mv : PV} {xs : List Int}, (mv = .slice 1 (xs.map (.int .i64)) ∨ (mv = .nilslice ∧ xs = [])) → (mv.clean = true ∧ mv.pure = true) ∧ mv.one = true := fun {mv xs} h => by
    rcases h with rfl | ⟨rfl, _⟩
    · refine ⟨⟨by simp [PV.clean], ?_⟩, rfl⟩
      simp only [PV.pure]
      induction xs with
      | nil => rfl
      | cons x xs ih => simp only [List.map_cons, PV.pureL, PV.pure, Bool.true_and]; exact ih
    · exact ⟨⟨rfl, rfl⟩, rfl⟩
  obtain ⟨za, na, ra⟩ := row_ev hmv
  obtain ⟨zb, nb, rb⟩ := row_ev hnv
  obtain ⟨h1, h2⟩ := wthn_range a 4 (by decide) (by decide)
  obtain ⟨k, hk⟩ : ∃ k : Nat, wthn a 4 = k := ⟨(wthn a 4).toNat, by omega⟩
  have hk4 : k < 4 := by omega
  have hw := within_ev a 4 (by decide)
  rw [hk] at hw
  have hnu : NuOk (nuL (sameL mv nv a k za zb na nb)) := nuL_ok (by
    intro p hp
    simp only [sameL, List.mem_append, List.mem_cons, List.not_mem_nil, or_false] at hp
    rcases hp with ((rfl | rfl | rfl | rfl) | hp) | hp
    · exact (hpc hmv).1
    · exact (hpc hnv).1
    · exact ⟨rfl, rfl⟩
    · exact ⟨rfl, rfl⟩
    · exact (rv_clean _ _ p hp).symm
    · exact (rv_clean _ _ p hp).symm)
  have hself : ∀ t ∈ selfB, BinOk (nuL (sameL mv nv a k za zb na nb)) t.1 t.2.1 t.2.2.1 t.2.2.2 := by
    intro t ht
    simp only [selfB, List.mem_cons, List.not_mem_nil, or_false] at ht
    rcases ht with rfl | rfl | rfl | rfl | rfl | rfl
    all_goals exact binK (a := na k) (b := na k) (by decide) (by decide) rfl rfl (by simp [intP, sub0])
  have hT : TabOk Try.prog (nuL (sameL mv nv a k za zb na nb)) (sameT k (za k)) :=
    ((((emptyTab_ok _ _).more hself).prim (args := [.atom 2, .int .i64 4]) (r := .int .i64 k) hw rfl rfl rfl trivial).rowd (args := [tb, .atom 1, .str []]) (by rw [b_cells]; exact rb)).rowd (args := [tb, .atom 0, .str []]) (by rw [a_cells _ _ _ _ hk4]; exact ra)
  have h := okT_eq (bl_all (List.all_eq_true.1 same_k k (by rw [List.mem_range]; exact hk4)) (za k))
  refine Ev.of prog_ok hnu (TabOk.orc hnu hT) h ?_ rfl rfl
  intro p hp
  simp only [List.mem_cons, List.not_mem_nil, or_false] at hp
  rcases hp with rfl | rfl | rfl
  · exact ⟨(hpc hmv).1.2, rfl, fun i hi => by cases hi; exact (hpc hmv).2⟩
  · exact ⟨(hpc hnv).1.2, rfl, fun i hi => by cases hi; exact (hpc hnv).2⟩
  · exact ⟨rfl, rfl, fun i hi => by cases hi; rfl⟩
end Go.Proofs.Ytglffgneikoeaaa.Den
