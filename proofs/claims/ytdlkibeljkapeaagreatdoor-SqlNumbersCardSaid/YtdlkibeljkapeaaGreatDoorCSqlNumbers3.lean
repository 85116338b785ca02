-- Written by drive.py and pack.py (programs of this proof's own) through the kit's printer; not trusted: Lean checks it.
import Derived.Shelf.Strings.Builder1
import Derived.Shelf.Strings.Builder2
import Derived.Shelf.Small.Utf8
import Derived.Shelf.Small.Strs
import Derived.Shelf.Utf8.RuneCount
import Derived.Shelf.Strconv.Itoa0
import Derived.Shelf.Strconv.Itoa1
import Derived.Shelf.LaysM
import Derived.Shelf.Strconv.Itoa2
import Derived.Shelf.Strconv.Itoa3
import Derived.Shelf.Strings.Search1
import Derived.Shelf.Strings.Search2
import Derived.Shelf.Strings.Search3
import Derived.Shelf.Strings.Cut
import Derived.Shelf.Strings.Count
import Derived.Shelf.Strings.Shaped
import Derived.Shelf.Strings.Split
import Derived.Shelf.Strings.Fields
import Derived.Shelf.Strings.Replace
import Derived.Shelf.Strings.SplitShaped
import Derived.Shelf.Unicode.Latin
import Derived.Shelf.Unicode.Decode
import Derived.Shelf.Strings.Runes
import Derived.Shelf.Strings.RuneCount
import Derived.Shelf.Strings.AsciiSet
import Derived.Shelf.Bits.Mul64
import Derived.Shelf.Unicode.DecodeSlow
import Derived.Shelf.Unicode.DecodeAny
import Derived.Shelf.Unicode.Is16White
import Derived.Shelf.Unicode.IsSpaceAny
import Derived.Shelf.Unicode.DecodeLast
import Derived.Shelf.Unicode.Is16Any
import Derived.Shelf.Unicode.Is32Any
import Derived.Shelf.Unicode.ExclAny
import Derived.Test.YtdlkibeljkapeaaGreatDoorProg
import Derived.Test.YtdlkibeljkapeaaGreatDoorCSqlNumbers2
namespace Go.Proofs
open Go.Shelf
def Tryz.laysM171_ren : Go.Shelf.Ren := ⟨fun | 171 => 50 | 243 => 75 | 246 => 90 | 283 => 115 | 284 => 116 | 285 => 117 | 286 => 118 | 129 => 144 | 317 => 143 | 318 => 145 | 319 => 146 | 320 => 147 | 337 => 168 | 338 => 169 | n => n, fun | 3 => 3 | 9 => 9 | 2 => 2 | 4 => 4 | 171 => 142 | 0 => 0 | 53 => 143 | 37 => 62 | 5 => 5 | 173 => 146 | 212 => 167 | 51 => 148 | 20 => 20 | 213 => 168 | 46 => 95 | 232 => 196 | 233 => 197 | n => n, fun | 17 => 0 | 18 => 6 | 19 => 7 | n => n⟩
theorem Tryz.laysM171 : Go.Proofs.LaysM.n171 Tryz.prog Tryz.laysM171_ren := {
  mixed := by kernel_rfl
  f129 := Tryz.func144.trans (congrArg some (by kernel_rfl))
  f171 := Tryz.func50.trans (congrArg some (by kernel_rfl))
  f243 := Tryz.func75.trans (congrArg some (by kernel_rfl))
  f246 := Tryz.func90.trans (congrArg some (by kernel_rfl))
  f283 := Tryz.func115.trans (congrArg some (by kernel_rfl))
  f284 := Tryz.func116.trans (congrArg some (by kernel_rfl))
  f285 := Tryz.func117.trans (congrArg some (by kernel_rfl))
  f286 := Tryz.func118.trans (congrArg some (by kernel_rfl))
  f317 := Tryz.func143.trans (congrArg some (by kernel_rfl))
  f318 := Tryz.func145.trans (congrArg some (by kernel_rfl))
  f319 := Tryz.func146.trans (congrArg some (by kernel_rfl))
  f320 := Tryz.func147.trans (congrArg some (by kernel_rfl))
  f337 := Tryz.func168.trans (congrArg some (by kernel_rfl))
  f338 := Tryz.func169.trans (congrArg some (by kernel_rfl))
  t0 := Tryz.underlying0
  a0 := Tryz.isAgg0
  z0 := Tryz.sizeOf0
  v0 := Tryz.zeroValue0
  t2 := Tryz.underlying2
  a2 := Tryz.isAgg2
  z2 := Tryz.sizeOf2
  v2 := Tryz.zeroValue2
  t3 := Tryz.underlying3
  a3 := Tryz.isAgg3
  z3 := Tryz.sizeOf3
  v3 := Tryz.zeroValue3
  t4 := Tryz.underlying4
  a4 := Tryz.isAgg4
  z4 := Tryz.sizeOf4
  v4 := Tryz.zeroValue4
  t5 := Tryz.underlying5
  a5 := Tryz.isAgg5
  z5 := Tryz.sizeOf5
  v5 := Tryz.zeroValue5
  t9 := Tryz.underlying9
  a9 := Tryz.isAgg9
  z9 := Tryz.sizeOf9
  v9 := Tryz.zeroValue9
  t20 := Tryz.underlying20
  a20 := Tryz.isAgg20
  z20 := Tryz.sizeOf20
  v20 := Tryz.zeroValue20
  t37 := Tryz.underlying62
  a37 := Tryz.isAgg62
  z37 := Tryz.sizeOf62
  v37 := Tryz.zeroValue62
  t46 := Tryz.underlying95
  a46 := Tryz.isAgg95
  z46 := Tryz.sizeOf95
  v46 := Tryz.zeroValue95
  t51 := Tryz.underlying148
  a51 := Tryz.isAgg148
  z51 := Tryz.sizeOf148
  v51 := Tryz.zeroValue148
  t53 := Tryz.underlying143
  a53 := Tryz.isAgg143
  z53 := Tryz.sizeOf143
  v53 := Tryz.zeroValue143
  t171 := Tryz.underlying142
  a171 := Tryz.isAgg142
  z171 := Tryz.sizeOf142
  v171 := Tryz.zeroValue142
  t173 := Tryz.underlying146
  a173 := Tryz.isAgg146
  z173 := Tryz.sizeOf146
  v173 := Tryz.zeroValue146
  t212 := Tryz.underlying167
  a212 := Tryz.isAgg167
  z212 := Tryz.sizeOf167
  v212 := Tryz.zeroValue167
  t213 := Tryz.underlying168
  a213 := Tryz.isAgg168
  z213 := Tryz.sizeOf168
  t232 := Tryz.underlying196
  a232 := Tryz.isAgg196
  z232 := Tryz.sizeOf196
  v232 := Tryz.zeroValue196
  t233 := Tryz.underlying197
  a233 := Tryz.isAgg197
  z233 := Tryz.sizeOf197
  v233 := Tryz.zeroValue197
  g17 := by kernel_rfl
  g18 := by kernel_rfl
  g19 := by kernel_rfl
  i0 := by kernel_rfl
  i2 := by kernel_rfl
  i3 := by kernel_rfl
  i4 := by kernel_rfl
  i5 := by kernel_rfl
  i9 := by kernel_rfl
  i20 := by kernel_rfl
  i37 := by kernel_rfl
  i46 := by kernel_rfl
  i51 := by kernel_rfl
  i53 := by kernel_rfl
  i171 := by kernel_rfl
  i173 := by kernel_rfl
  i212 := by kernel_rfl
  i232 := by kernel_rfl
  i233 := by kernel_rfl
  m17 := by kernel_rfl
  m18 := by kernel_rfl
  m19 := by kernel_rfl }
open Go.RowKit Go.Sort Go.Lib in
theorem Tryz.strconv_Itoa (n : Int) (h0 : -9223372036854775808 ≤ n) (h1 : n ≤ 9223372036854775807) (w : World) (htab : Lib.TabIs Tryz.prog w "internal/strconv.uint64pow10" .u64 Lib.pow10Tab) :
    Calls Tryz.prog 50 #[.int .i64 n] w fun e w' => e = .returned (.string ⟨(Lib.itoa n).toArray⟩) ∧ ∃ k os, w' = grow (w.drewN k) os := Any.strconv_Itoa Tryz.laysM171 n h0 h1 w htab
def Tryz.lays145_ren : Go.Shelf.Ren := ⟨fun | 145 => 139 | 220 => 159 | 219 => 125 | 217 => 150 | 225 => 151 | 224 => 152 | 267 => 153 | 266 => 170 | 314 => 171 | n => n, fun | 9 => 9 | 4 => 4 | 59 => 163 | 3 => 3 | 5 => 5 | 46 => 95 | 146 => 149 | 51 => 148 | n => n, fun | 1 => 1 | n => n⟩
theorem Tryz.lays145 : Go.Proofs.Lays.n145 Tryz.prog Tryz.lays145_ren := {
  mixed := by kernel_rfl
  f145 := Tryz.func139.trans (congrArg some (by kernel_rfl))
  f217 := Tryz.func150.trans (congrArg some (by kernel_rfl))
  f219 := Tryz.func125.trans (congrArg some (by kernel_rfl))
  f220 := Tryz.func159.trans (congrArg some (by kernel_rfl))
  f224 := Tryz.func152.trans (congrArg some (by kernel_rfl))
  f225 := Tryz.func151.trans (congrArg some (by kernel_rfl))
  f266 := Tryz.func170.trans (congrArg some (by kernel_rfl))
  f267 := Tryz.func153.trans (congrArg some (by kernel_rfl))
  f314 := Tryz.func171.trans (congrArg some (by kernel_rfl))
  t3 := Tryz.underlying3
  a3 := Tryz.isAgg3
  z3 := Tryz.sizeOf3
  v3 := Tryz.zeroValue3
  t4 := Tryz.underlying4
  a4 := Tryz.isAgg4
  z4 := Tryz.sizeOf4
  v4 := Tryz.zeroValue4
  t5 := Tryz.underlying5
  a5 := Tryz.isAgg5
  z5 := Tryz.sizeOf5
  v5 := Tryz.zeroValue5
  t9 := Tryz.underlying9
  a9 := Tryz.isAgg9
  z9 := Tryz.sizeOf9
  v9 := Tryz.zeroValue9
  t46 := Tryz.underlying95
  a46 := Tryz.isAgg95
  z46 := Tryz.sizeOf95
  v46 := Tryz.zeroValue95
  t51 := Tryz.underlying148
  a51 := Tryz.isAgg148
  z51 := Tryz.sizeOf148
  v51 := Tryz.zeroValue148
  t59 := Tryz.underlying163
  a59 := Tryz.isAgg163
  z59 := Tryz.sizeOf163
  v59 := Tryz.zeroValue163
  t146 := Tryz.underlying149
  a146 := Tryz.isAgg149
  z146 := Tryz.sizeOf149
  v146 := Tryz.zeroValue149
  g1 := by kernel_rfl }
open Go.RowKit Go.Lib in
theorem Tryz.strings_Cut (s sep : ByteArray) (m : Int) (w : World) (hs : s.size < 4294967281) (hm : w.cell? ⟨1, 0, none⟩ = some (.int .i64 m)) :
    Calls Tryz.prog 139 #[.string s, .string sep] w fun e w' => e = .returned (.tuple #[.string ⟨(Lib.cut s.data.toList sep.data.toList).1.toArray⟩, .string ⟨(Lib.cut s.data.toList sep.data.toList).2.1.toArray⟩, .bool (Lib.cut s.data.toList sep.data.toList).2.2]) ∧ ∃ n, w' = w.drewN n := Any.strings_Cut Tryz.lays145 s sep m w hs hm
end Go.Proofs
namespace Go.Proofs.YtdlkibeljkapeaaGreatDoor.Den
open Go Go.RowKit
theorem fn_of {P : Program} (g : FuncId) (h : (match P.funcs[g]? with | some fn => !(fn.name == "runtime.NumGoroutine") && fn.body.isSome | none => false) = true) : ∃ fn, P.funcs[g]? = some fn ∧ (fn.name == "runtime.NumGoroutine") = false ∧ fn.body.isSome = true := by
  split at h
  · rename_i fn hf
    simp only [Bool.and_eq_true, Bool.not_eq_true'] at h
    exact ⟨fn, hf, h.1, h.2⟩
  · cases h
theorem below_drewN (w : World) (n : Nat) : Below w.heap.size w (w.drewN n) := ⟨rfl, rfl, rfl, Nat.le_refl _, fun _ _ => rfl⟩
theorem below_grow (w : World) (k : Nat) (os : Array Obj) : Below w.heap.size w (Sort.grow (w.drewN k) os) := by
  refine ⟨rfl, rfl, rfl, by show w.heap.size ≤ (w.heap ++ os).size; rw [Array.size_append]; omega, fun i hi => ?_⟩
  have h : i < (w.drewN k).heap.size := hi
  show ((w.drewN k).heap ++ os)[i]? = _
  rw [Array.getElem?_append_left h]; rfl
theorem cell_maxLen {X : Map} {w : World} (h : X.Ok w) : ∃ m, w.cell? ⟨1, 0, none⟩ = some (.int .i64 m) := by
  obtain ⟨arr, e, fr, h1, _, _, h4⟩ := h.2 1 rfl
  obtain ⟨m, rfl⟩ := h4
  exact ⟨m, by simp [World.cell?, h1]⟩
theorem tab_pow10 {X : Map} {w : World} (h : X.Ok w) : Lib.TabIs PG w "internal/strconv.uint64pow10" .u64 Lib.pow10Tab := by
  obtain ⟨arr, e, fr, h1, _, _, h4⟩ := h.2 0 rfl
  have h4' : arr = (Lib.pow10Tab.map fun z => Value.int .u64 z).toArray := h4
  have hg : PG.globalNamed "internal/strconv.uint64pow10" = some 0 := by kernel_rfl
  unfold Lib.TabIs World.var?
  rw [hg]
  simp only [Option.bind_some, h1, h4']
abbrev nI (n : Int) : PV := .int .i64 n
theorem R_tup3 (X : Map) (a b : List UInt8) (c : Bool) : R X (.tup [.str a, .str b, .bool c]) (.tuple #[.string ⟨a.toArray⟩, .string ⟨b.toArray⟩, .bool c]) := by
  refine .tup _ _ rfl fun j p hp => ?_
  match j, hp with
  | 0, hp => cases hp; exact .str ⟨a.toArray⟩
  | 1, hp => cases hp; exact .str ⟨b.toArray⟩
  | 2, hp => cases hp; exact .bool c
theorem cut_ev (s sep : List UInt8) (hs : s.length < 4294967281) : Ev PG f_strings_Cut [.str s, .str sep] (.tup [.str (Lib.cut s sep).1, .str (Lib.cut s sep).2.1, .bool (Lib.cut s sep).2.2]) := by
  refine Ev.ofCalls (fn_of _ (by kernel_rfl)) fun X w vs a1 a2 a3 => ?_
  obtain ⟨u, v, rfl, r1, r2⟩ := vs_two a1 a2
  rw [r1.str_inv, r2.str_inv]
  obtain ⟨m, hm⟩ := cell_maxLen a3
  refine (Go.Proofs.Tryz.strings_Cut ⟨s.toArray⟩ ⟨sep.toArray⟩ m w (by show s.toArray.size < _; simpa using hs) hm).mono ?_
  rintro e w' ⟨he, n, rfl⟩
  exact ⟨⟨_, he, R_tup3 X _ _ _⟩, below_drewN w n⟩
theorem itoa_ev (n : Int) (h : -9223372036854775808 ≤ n ∧ n ≤ 9223372036854775807) : Ev PG f_strconv_Itoa [nI n] (.str (Lib.itoa n)) := by
  refine Ev.ofCalls (fn_of _ (by kernel_rfl)) fun X w vs a1 a2 a3 => ?_
  obtain ⟨u, rfl, r1⟩ := vs_one a1 a2
  rw [r1.int_inv]
  refine (Go.Proofs.Tryz.strconv_Itoa n h.1 h.2 w (tab_pow10 a3)).mono ?_
  rintro e w' ⟨he, k, os, rfl⟩
  exact ⟨⟨_, he, .str ⟨(Lib.itoa n).toArray⟩⟩, below_grow w k os⟩
end Go.Proofs.YtdlkibeljkapeaaGreatDoor.Den
namespace Go.Proofs.YtdlkibeljkapeaaGreatDoor.Den
open Go Go.RowKit
def cutF (s : List UInt8) : Fact := .prim f_strings_Cut [.str s, .str [46]] (.tup [.str (Lib.cut s [46]).1, .str (Lib.cut s [46]).2.1, .bool (Lib.cut s [46]).2.2])
def itoaF (p : Int × List UInt8) : Fact := .prim f_strconv_Itoa [nI p.1] (.str p.2)
end Go.Proofs.YtdlkibeljkapeaaGreatDoor.Den
namespace Go.Proofs.YtdlkibeljkapeaaGreatDoor.Den
open Go Go.RowKit
abbrev oI (op : BinOp) (x y r : PV) : Fact := .op (.bin op ty_int) [x, y] r
abbrev nB (c : UInt8) : PV := .int .u8 c.toNat
theorem fprim {nu : Nat → PV} {g : FuncId} {args : List PV} {r : PV} {a : List PV} {b : PV} (h : Ev PG g a b) (h1 : args.map (subD nu) = a) (h2 : subD nu r = b) (h3 : oneB nu r = true) : FactOk PG nu (.prim g args r) := ⟨by rw [h1, h2]; exact h, h3⟩
theorem u_string : PG.underlying ty_string = some .string := by kernel_rfl
theorem fStrLen {nu : Nat → PV} {x r : PV} {s : List UInt8} (h1 : subD nu x = .str s) (h2 : subD nu r = nI s.length) (h3 : oneB nu r = true) : FactOk PG nu (.op (.len ty_string) [x] r) := by
  refine ⟨?_, h3⟩
  show lenP PG ty_string (subD nu x) = some (subD nu r)
  rw [h1, h2]
  unfold lenP
  rw [u_string]
theorem fStrIx {nu : Nat → PV} {x i r : PV} {s : List UInt8} {n : Nat} {c : UInt8} (h1 : subD nu x = .str s) (h2 : subD nu i = nI n) (h3 : s[n]? = some c) (h4 : subD nu r = nB c) (h5 : oneB nu r = true) : FactOk PG nu (.op (.index ty_string) [x, i] r) := by
  refine ⟨?_, h5⟩
  show indexP PG ty_string (subD nu x) (subD nu i) = some (subD nu r)
  rw [h1, h2, h4]
  unfold indexP
  rw [u_string]
  show (if (0 : Int) ≤ (n : Int) then (match s[((n : Nat) : Int).toNat]? with | some b => some (PV.int .u8 b.toNat) | none => none) else none) = _
  rw [if_pos (by omega), Int.toNat_natCast, h3]
theorem w6_id {n : Int} (h0 : -9223372036854775808 ≤ n) (h1 : n ≤ 9223372036854775807) : IntKind.i64.wrap n = n := Go.IntWalk.i64_in _ ⟨h0, h1⟩
def paT (g : FuncId) : List (Nat × PV) := [(0, .atom 0), (1, .atom 1), (2, .fn g [] [])]
def paA (b : Bool) : List Fact := [.op (.len ty_string) [.atom 0] (.atom 2), oI .lss (.atom 1) (.atom 2) (.bool b)]
def paB (g : FuncId) (q : Bool) : List Fact := paA true ++ [.op (.index ty_string) [.atom 0, .atom 1] (.atom 3), .prim g [.atom 3] (.bool q), oI .add (.atom 1) (nI 1) (.atom 4)]
noncomputable abbrev paRun (g : FuncId) (fs : List Fact) : Option (Ex × St) := execN PG (fOrc noOwn fs) (callF PG (fOrc noOwn fs) 5) ((fOrc noOwn fs).loop f_sql_past) 5 3 (loopAt PG f_sql_past 1) ⟨paT g, []⟩
theorem pa_lone : loneB PG f_sql_past 1 = true := by kernel_rfl
def kindsL : List FuncId := [f_sql_blank, f_sql_inner, f_sql_digit, f_sql_hex]
theorem pa_a : (kindsL.all fun g => runsB (paRun g (paA false)) (.exit 0) [(1, .atom 1)] []) = true := by kernel_rfl
theorem pa_b : (kindsL.all fun g => runsB (paRun g (paB g false)) (.exit 0) [(1, .atom 1)] []) = true := by kernel_rfl
theorem pa_c : (kindsL.all fun g => runsB (paRun g (paB g true)) .normal [(0, .atom 0), (1, .atom 4), (2, .fn g [] [])] []) = true := by kernel_rfl
theorem pa_f : (kindsL.all fun g => okR (.atom 2) (callF PG (fOrc noOwn [.loop f_sql_past 1 [(0, .atom 0), (1, .atom 1), (2, .fn g [] [])] [] (.exit 0) [(1, .atom 2)] []]) 5 f_sql_past [.atom 0, .atom 1, .fn g [] []] [])) = true := by kernel_rfl
set_option maxRecDepth 20000 in
theorem pa_loop {g : FuncId} (hg : g ∈ kindsL) {p : UInt8 → Bool} (hp : ∀ c, Ev PG g [nB c] (.bool (p c))) {s : List UInt8} (hs : s.length ≤ 9223372036854775806) : ∀ (l : List UInt8) (i : Nat), s.drop i = l → i ≤ s.length →
    RunsR PG (ntOf PG f_sql_past) (loopAt PG f_sql_past 1) [(0, .str s), (1, nI i), (2, .fn g [] [])] [] (.exit 0) [(1, nI (i + (l.takeWhile p).length : Nat))] [] := by
  intro l
  induction l with
  | nil =>
    intro i hi h1
    have hlen : s.length ≤ i := by
      have := congrArg List.length hi
      simp at this; omega
    have hge : ¬ ((i : Nat) : Int) < (s.length : Int) := by omega
    refine RunsR.leave ?_ (fun h => by cases h)
    exact RunsP.chk (nu := nuL [.str s, nI i, nI s.length]) prog_ok (nuL_okB rfl) (T := paT g) (s := []) (T' := [(1, .atom 1)]) (s' := []) pa_lone (List.all_eq_true.1 pa_a g hg)
      ⟨fStrLen rfl rfl rfl, fCmp (c := false) (a := i) (b := s.length) rfl rfl rfl (by simp only [intP]; rw [decide_eq_false hge]) (by decide) rfl, trivial⟩ rfl rfl rfl
  | cons c l ih =>
    intro i hi h1
    have hx : s[i]? = some c := by
      have := congrArg (fun z => z[0]?) hi
      simpa using this
    have hil : i < s.length := (List.getElem?_eq_some_iff.1 hx).1
    have hl : s.drop (i + 1) = l := by
      have := congrArg List.tail hi
      simpa using this
    have hlt : ((i : Nat) : Int) < (s.length : Int) := by omega
    have e4 : IntKind.i64.wrap ((i : Int) + 1) = ((i + 1 : Nat) : Int) := by rw [w6_id (by omega) (by omega)]; omega
    have hf : ∀ q, p c = q → FactsOk PG (nuL [.str s, nI i, nI s.length, nB c, nI (i + 1 : Nat)]) (paB g q) := fun q hq => by
      have hpc := hp c
      rw [hq] at hpc
      unfold paB paA
      exact ⟨fStrLen rfl rfl rfl, fCmp (c := true) (a := i) (b := s.length) rfl rfl rfl (by simp only [intP]; rw [decide_eq_true hlt]) (by decide) rfl, fStrIx rfl rfl hx rfl rfl, fprim hpc rfl rfl rfl, fInt (a := i) (b := 1) rfl rfl rfl (by simp only [intP]; rw [e4]) (by decide) rfl, trivial⟩
    cases hq : p c with
    | false =>
      have e : ((c :: l).takeWhile p).length = 0 := by simp [hq]
      rw [e]
      refine RunsR.leave ?_ (fun h => by cases h)
      exact RunsP.chk (nu := nuL [.str s, nI i, nI s.length, nB c, nI (i + 1 : Nat)]) prog_ok (nuL_okB rfl) (T := paT g) (s := []) (T' := [(1, .atom 1)]) (s' := []) pa_lone (List.all_eq_true.1 pa_b g hg) (hf false hq) rfl rfl rfl
    | true =>
      have e : i + ((c :: l).takeWhile p).length = i + 1 + (l.takeWhile p).length := by simp [hq]; omega
      rw [e]
      refine RunsR.round ?_ (ih (i + 1) hl (by omega))
      exact RunsP.chk (nu := nuL [.str s, nI i, nI s.length, nB c, nI (i + 1 : Nat)]) prog_ok (nuL_okB rfl) (T := paT g) (s := []) (T' := [(0, .atom 0), (1, .atom 4), (2, .fn g [] [])]) (s' := []) pa_lone (List.all_eq_true.1 pa_c g hg) (hf true hq) rfl rfl rfl
theorem past_ev {g : FuncId} (hg : g ∈ kindsL) {p : UInt8 → Bool} (hp : ∀ c, Ev PG g [nB c] (.bool (p c))) {s : List UInt8} (hs : s.length ≤ 9223372036854775806) (i : Nat) (hi : i ≤ s.length) :
    Ev PG f_sql_past [.str s, nI i, .fn g [] []] (nI (i + ((s.drop i).takeWhile p).length : Nat)) :=
  Ev.facts (nu := nuL [.str s, nI i, nI (i + ((s.drop i).takeWhile p).length : Nat)]) prog_ok (nuL_okB rfl) (okR_eq (List.all_eq_true.1 pa_f g hg)) ⟨fLoopOk pa_lone (Nat.le_refl _) (pa_loop hg hp hs (s.drop i) i rfl hi) rfl, trivial⟩ rfl rfl
end Go.Proofs.YtdlkibeljkapeaaGreatDoor.Den
namespace Go.Proofs.YtdlkibeljkapeaaGreatDoor.Den
open Go Go.RowKit
def isBlank (c : UInt8) : Bool := c == 32 || c == 10
def isSmall (c : UInt8) : Bool := decide (97 ≤ c.toNat) && decide (c.toNat ≤ 122)
def isDigit (c : UInt8) : Bool := decide (48 ≤ c.toNat) && decide (c.toNat ≤ 57)
def isInner (c : UInt8) : Bool := isSmall c || (isDigit c || c == 95)
noncomputable def byteB (f : FuncId) (p : UInt8 → Bool) : Bool := (List.range 256).all fun c => okR (.bool (p (UInt8.ofNat c))) (callF PG noOrc 5 f [.int .u8 (c : Nat)] [])
theorem byte_ev {f : FuncId} {p : UInt8 → Bool} (h : byteB f p = true) (c : UInt8) : Ev PG f [nB c] (.bool (p c)) := by
  have hk := List.all_eq_true.1 h c.toNat (by rw [List.mem_range]; exact c.toNat_lt)
  have e : UInt8.ofNat c.toNat = c := by simp
  rw [e] at hk
  exact Ev.ofD (nu := nuL []) (args := [nB c]) prog_ok (nuL_okB rfl) (noOrc_ok PG _) (okR_eq hk) (fun p hp => by simp at hp; subst hp; exact ⟨rfl, rfl⟩) rfl rfl
theorem blank_ev : ∀ c, Ev PG f_sql_blank [nB c] (.bool (isBlank c)) := byte_ev (by kernel_rfl)
theorem small_ev : ∀ c, Ev PG f_sql_small [nB c] (.bool (isSmall c)) := byte_ev (by kernel_rfl)
theorem digit_ev : ∀ c, Ev PG f_sql_digit [nB c] (.bool (isDigit c)) := byte_ev (by kernel_rfl)
theorem inner_ev : ∀ c, Ev PG f_sql_inner [nB c] (.bool (isInner c)) := byte_ev (by kernel_rfl)
def pastN (p : UInt8 → Bool) (s : List UInt8) (i : Nat) : Nat := i + ((s.drop i).takeWhile p).length
theorem past_blank {s : List UInt8} (hs : s.length ≤ 9223372036854775806) (i : Nat) (hi : i ≤ s.length) : Ev PG f_sql_past [.str s, nI i, .fn f_sql_blank [] []] (nI (pastN isBlank s i)) := past_ev (by simp [kindsL]) blank_ev hs i hi
theorem past_inner {s : List UInt8} (hs : s.length ≤ 9223372036854775806) (i : Nat) (hi : i ≤ s.length) : Ev PG f_sql_past [.str s, nI i, .fn f_sql_inner [] []] (nI (pastN isInner s i)) := past_ev (by simp [kindsL]) inner_ev hs i hi
theorem past_digit {s : List UInt8} (hs : s.length ≤ 9223372036854775806) (i : Nat) (hi : i ≤ s.length) : Ev PG f_sql_past [.str s, nI i, .fn f_sql_digit [] []] (nI (pastN isDigit s i)) := past_ev (by simp [kindsL]) digit_ev hs i hi
theorem same_str (l m : List UInt8) : strP .eql l m = some (.bool (l == m)) := rfl
theorem fStrEq {nu : Nat → PV} {op : BinOp} {x y r : PV} {l m : List UInt8} {p : PV} (h1 : subD nu x = .str l) (h2 : subD nu y = .str m) (h : strP op l m = some p) (h3 : subD nu r = p) (h4 : oneB nu r = true) : FactOk PG nu (.op (.bin op ty_string) [x, y] r) := by
  refine ⟨?_, h4⟩
  show binP PG op ty_string (subD nu x) (subD nu y) = some (subD nu r)
  rw [h1, h2, h3, ← h]
  cases op <;> rfl
def coF (i : Nat) (b : Bool) : List Fact := (List.range (if b then i + 1 else i)).map fun j => .op (.bin .eql ty_string) [.atom 0, .str (keysL.getD j [])] (.bool (decide (j = i)))
def coF' (i : Nat) (b : Bool) : List Fact := (List.range (if b then i + 1 else i)).map fun j => .op (.bin .eql ty_string) [.str (keysL.getD j []), .atom 0] (.bool (decide (j = i)))
theorem co_k : ((List.range 33).all fun i => okR (.bool true) (callF PG (fOrc noOwn (coF i true ++ coF' i true)) 40 f_slices_Contains_sl_string_string [strsP keysL, .atom 0] [])) = true := by kernel_rfl
theorem co_k0 : okR (.bool false) (callF PG (fOrc noOwn (coF 33 false ++ coF' 33 false)) 40 f_slices_Contains_sl_string_string [strsP keysL, .atom 0] []) = true := by kernel_rfl
end Go.Proofs.YtdlkibeljkapeaaGreatDoor.Den
namespace Go.Proofs.YtdlkibeljkapeaaGreatDoor.Den
open Go Go.RowKit
theorem keysL_len : keysL.length = 33 := by decide +kernel
theorem coF_ok {w : List UInt8} {i : Nat} {b : Bool} (h : ∀ j, j < (if b then i + 1 else i) → (keysL.getD j [] == w) = decide (j = i)) : FactsOk PG (nuL [.str w]) (coF i b ++ coF' i b) := by
  refine FactsOk.append (FactsOk.of fun f hf => ?_) (FactsOk.of fun f hf => ?_)
  · obtain ⟨j, hj, rfl⟩ := List.mem_map.1 hf
    rw [List.mem_range] at hj
    have := h j hj
    refine fStrEq (l := w) (m := keysL.getD j []) rfl rfl (same_str _ _) ?_ rfl
    show PV.bool _ = _
    rw [← this]
    congr 1
    exact Bool.eq_iff_iff.2 (by simp only [beq_iff_eq]; exact eq_comm)
  · obtain ⟨j, hj, rfl⟩ := List.mem_map.1 hf
    rw [List.mem_range] at hj
    have := h j hj
    refine fStrEq (l := keysL.getD j []) (m := w) rfl rfl (same_str _ _) ?_ rfl
    show PV.bool _ = _
    rw [← this]
theorem contains_ev (w : List UInt8) : Ev PG f_slices_Contains_sl_string_string [strsP keysL, .str w] (.bool (keysL.contains w)) := by
  by_cases hc : ∃ i, i < 33 ∧ keysL.getD i [] = w
  · obtain ⟨i, hi, hw⟩ : ∃ i, (i < 33 ∧ keysL.getD i [] = w) ∧ ∀ j, j < i → ¬ keysL.getD j [] = w := by
      obtain ⟨i, hi⟩ := hc
      induction i using Nat.strongRecOn with
      | _ i ih =>
        by_cases hm : ∃ j, j < i ∧ keysL.getD j [] = w
        · obtain ⟨j, h1, h2⟩ := hm; exact ih j h1 ⟨by omega, h2⟩
        · exact ⟨i, hi, fun j h1 h2 => hm ⟨j, h1, h2⟩⟩
    have e : keysL.contains w = true := by
      rw [List.contains_iff_mem, ← hi.2, List.getD_eq_getElem?_getD, List.getElem?_eq_getElem (by rw [keysL_len]; exact hi.1)]
      exact List.getElem_mem _
    rw [e]
    refine Ev.facts (nu := nuL [.str w]) (args := [strsP keysL, .atom 0]) prog_ok (nuL_okB rfl) (okR_eq (List.all_eq_true.1 co_k i (by rw [List.mem_range]; exact hi.1))) (coF_ok fun j hj => ?_) rfl rfl
    rw [if_pos rfl] at hj
    by_cases hji : j = i
    · subst hji; rw [hi.2]; simp
    · have := hw j (by omega)
      rw [decide_eq_false hji]; exact beq_eq_false_iff_ne.2 this
  · have e : keysL.contains w = false := by
      rw [Bool.eq_false_iff]
      intro h
      rw [List.contains_iff_mem] at h
      obtain ⟨i, hi, hw⟩ := List.getElem_of_mem h
      exact hc ⟨i, by rw [keysL_len] at hi; exact hi, by rw [List.getD_eq_getElem?_getD, List.getElem?_eq_getElem hi, Option.getD_some, hw]⟩
    rw [e]
    refine Ev.facts (nu := nuL [.str w]) (args := [strsP keysL, .atom 0]) prog_ok (nuL_okB rfl) (okR_eq co_k0) (coF_ok fun j hj => ?_) rfl rfl
    have hj' : j < 33 := by simpa using hj
    have h1 : ¬ keysL.getD j [] = w := fun h => hc ⟨j, hj', h⟩
    have h2 : ¬ j = 33 := by omega
    rw [decide_eq_false h2]; exact beq_eq_false_iff_ne.2 h1
end Go.Proofs.YtdlkibeljkapeaaGreatDoor.Den
namespace Go.Proofs.YtdlkibeljkapeaaGreatDoor.Den
open Go Go.RowKit
def sgA (k a w v0 v1 v2 v3 e : PV) : PV := .agg [k, a, w, v0, v1, v2, v3, e]
def sgP (k at_ : Int) (w : List UInt8) (e : Int) : PV := sgA (nI k) (nI at_) (.str w) (nI 0) (nI 0) (nI 0) (.str []) (nI e)
theorem fSlice {nu : Nat → PV} {x lo hi r : PV} {s w : List UInt8} {i j : Nat} (h1 : subD nu x = .str s) (h2 : subD nu lo = nI i) (h3 : subD nu hi = nI j) (hij : i ≤ j ∧ j ≤ s.length) (hw : (s.take j).drop i = w) (h4 : subD nu r = .str w) (h5 : oneB nu r = true) : FactOk PG nu (.op (.slice ty_string true true) [x, lo, hi] r) := by
  refine ⟨?_, h5⟩
  show sliceP PG ty_string (subD nu x) (some (subD nu lo)) (some (subD nu hi)) = some (subD nu r)
  rw [h1, h2, h3, h4]
  unfold sliceP
  rw [u_string]
  have e1 : optBound (some (nI j)) s.length s.length = some j := by
    show (if 0 ≤ (j : Int) ∧ (j : Int) ≤ (s.length : Int) then some ((j : Int).toNat) else none) = _
    rw [if_pos (by omega), Int.toNat_natCast]
  have e2 : optBound (some (nI i)) j 0 = some i := by
    show (if 0 ≤ (i : Int) ∧ (i : Int) ≤ (j : Int) then some ((i : Int).toNat) else none) = _
    rw [if_pos (by omega), Int.toNat_natCast]
  simp only [boundsP, e1, e2, hw]
theorem fSliceTo {nu : Nat → PV} {x lo r : PV} {s w : List UInt8} {i : Nat} (h1 : subD nu x = .str s) (h2 : subD nu lo = nI i) (hij : i ≤ s.length) (hw : s.drop i = w) (h4 : subD nu r = .str w) (h5 : oneB nu r = true) : FactOk PG nu (.op (.slice ty_string true false) [x, lo] r) := by
  refine ⟨?_, h5⟩
  show sliceP PG ty_string (subD nu x) (some (subD nu lo)) none = some (subD nu r)
  rw [h1, h2, h4]
  unfold sliceP
  rw [u_string]
  have e1 : optBound none s.length s.length = some s.length := rfl
  have e2 : optBound (some (nI i)) s.length 0 = some i := by
    show (if 0 ≤ (i : Int) ∧ (i : Int) ≤ (s.length : Int) then some ((i : Int).toNat) else none) = _
    rw [if_pos (by omega), Int.toNat_natCast]
  simp only [boundsP, e1, e2, List.take_length, hw]
theorem fU8 {nu : Nat → PV} {op : BinOp} {x y r : PV} {a b : Int} {p : PV} (hx : subD nu x = .int .u8 a) (hy : subD nu y = .int .u8 b) (h : intP op .u8 a b = some p) (hr : subD nu r = p) (hs : op ≠ .shl ∧ op ≠ .shr) (h1 : oneB nu r = true) : FactOk PG nu (.op (.bin op ty_uint8) [x, y] r) := by
  refine ⟨?_, h1⟩
  show binP PG op ty_uint8 (subD nu x) (subD nu y) = some (subD nu r)
  rw [hx, hy, hr, ← h]
  cases op <;> first | rfl | exact absurd rfl hs.1 | exact absurd rfl hs.2
theorem past_bd (p : UInt8 → Bool) (s : List UInt8) (i : Nat) (hi : i ≤ s.length) : i ≤ pastN p s i ∧ pastN p s i ≤ s.length := by
  unfold pastN
  have h : (s.drop i).takeWhile p <+: s.drop i := List.takeWhile_prefix p
  have := h.length_le
  rw [List.length_drop] at this
  omega
theorem past_take (p : UInt8 → Bool) (s : List UInt8) (i : Nat) : (s.take (pastN p s i)).drop i = (s.drop i).takeWhile p := by
  unfold pastN
  rw [List.drop_take, Nat.add_sub_cancel_left]
  have h : (s.drop i).takeWhile p <+: s.drop i := List.takeWhile_prefix p
  exact (List.prefix_iff_eq_take.1 h).symm
def leF (b q : Bool) : List Fact :=
  [.prim f_sql_past [.atom 0, .atom 1, .fn f_sql_inner [] []] (.atom 2), .op (.slice ty_string true true) [.atom 0, .atom 1, .atom 2] (.atom 3), .prim f_sql_keys [] (strsP keysL), .prim f_slices_Contains_sl_string_string [strsP keysL, .atom 3] (.bool b),
   .op (.len ty_string) [.atom 3] (.atom 4), oI .gtr (.atom 4) (nI 12) (.bool q)]
def sg0 (a : PV) : PV := sgA (nI 0) a (.str []) (nI 0) (nI 0) (nI 0) (.str []) (nI 0)
def leR (b q : Bool) : PV := .tup [sgA (nI (if b then 1 else 2)) (.atom 1) (.atom 3) (nI 0) (nI 0) (nI 0) (.str []) (nI (if q then 11 else 0)), .atom 2]
theorem le_k : (bl fun b => bl fun q => okR (leR b q) (callF PG (fOrc noOwn (leF b q)) 10 f_sql_letters [.atom 0, sg0 (.atom 1)] [])) = true := by kernel_rfl
def wordAt (s : List UInt8) (i : Nat) : List UInt8 := (s.drop i).takeWhile isInner
theorem letters_ev {s : List UInt8} (hs : s.length ≤ 9223372036854775806) (i : Nat) (hi : i ≤ s.length) :
    Ev PG f_sql_letters [.str s, sgP 0 i [] 0] (.tup [sgP (if keysL.contains (wordAt s i) then 1 else 2) i (wordAt s i) (if 12 < (wordAt s i).length then 11 else 0), nI (pastN isInner s i : Nat)]) := by
  have hb := past_bd isInner s i hi
  have hk := okR_eq (bl_all (bl_all le_k (keysL.contains (wordAt s i))) (decide (((wordAt s i).length : Int) > 12)))
  have := Ev.facts (nu := nuL [.str s, nI i, nI (pastN isInner s i : Nat), .str (wordAt s i), nI (wordAt s i).length]) prog_ok (nuL_okB rfl) hk
    ⟨fprim (past_inner hs i hi) rfl rfl rfl, fSlice rfl rfl rfl hb (past_take _ _ _) rfl rfl, fprim keys_ev rfl rfl rfl, fprim (contains_ev _) rfl rfl rfl, fStrLen rfl rfl rfl, fCmp rfl rfl rfl rfl (by decide) rfl, trivial⟩ rfl (by cases keysL.contains (wordAt s i) <;> cases decide (((wordAt s i).length : Int) > 12) <;> rfl)
  have e1 : (if 12 < (wordAt s i).length then (11 : Int) else 0) = if decide (((wordAt s i).length : Int) > 12) then 11 else 0 := by
    by_cases h : 12 < (wordAt s i).length
    · rw [if_pos h, decide_eq_true (by omega)]; rfl
    · rw [if_neg h, decide_eq_false (by omega)]; rfl
  rw [e1]
  exact this
end Go.Proofs.YtdlkibeljkapeaaGreatDoor.Den
namespace Go.Proofs.YtdlkibeljkapeaaGreatDoor.Den
open Go Go.RowKit
abbrev V4 := Int × Int × Int × List UInt8
structure Sg where
  k : Int
  a : Int
  w : List UInt8
  v : V4
  e : Int
def Sg.pv (x : Sg) : PV := sgA (nI x.k) (nI x.a) (.str x.w) (nI x.v.1) (nI x.v.2.1) (nI x.v.2.2.1) (.str x.v.2.2.2) (nI x.e)
def v0 : V4 := (0, 0, 0, [])
abbrev bI (op : BinOp) (x : PV) (n : Int) (b : Bool) : Fact := .op (.bin op ty_uint8) [x, .int .u8 n] (.bool b)
def rdB : List Fact := [.prim f_sql_past [.atom 0, .atom 1, .fn f_sql_blank [] []] (.atom 2), .op (.len ty_string) [.atom 0] (.atom 3), oI .eql (.atom 2) (.atom 3) (.bool false), .op (.index ty_string) [.atom 0, .atom 2] (.atom 4)]
def rdX : Nat → List Fact
  | 0 => [bI .eql (.atom 4) 120 false]
  | 1 => [bI .eql (.atom 4) 120 true, oI .add (.atom 2) (nI 1) (.atom 5), oI .lss (.atom 5) (.atom 3) (.bool false)]
  | _ => [bI .eql (.atom 4) 120 true, oI .add (.atom 2) (nI 1) (.atom 5), oI .lss (.atom 5) (.atom 3) (.bool true), .op (.index ty_string) [.atom 0, .atom 5] (.atom 6), bI .eql (.atom 6) 39 false]
def rdR : PV := .tup [sgA (.atom 7) (.atom 8) (.atom 9) (.atom 10) (.atom 11) (.atom 12) (.atom 13) (.atom 14), .atom 15]
def rdS : Nat → List Fact
  | 0 => [.prim f_sql_small [.atom 4] (.bool true), .prim f_sql_letters [.atom 0, sg0 (.atom 2)] rdR]
  | 1 => [.prim f_sql_small [.atom 4] (.bool false), .prim f_sql_digit [.atom 4] (.bool true), .prim f_sql_digits [.atom 0, sg0 (.atom 2)] rdR]
  | _ => [.prim f_sql_small [.atom 4] (.bool false), .prim f_sql_digit [.atom 4] (.bool false), bI .eql (.atom 4) 39 true, .prim f_sql_text [.atom 0, sg0 (.atom 2)] rdR]
theorem rd_k : ((List.range 3).all fun v => (List.range 3).all fun w => okR rdR (callF PG (fOrc noOwn (rdB ++ (rdX v ++ rdS w))) 20 f_sql_read [.atom 0, .atom 1] [])) = true := by kernel_rfl
def rdNu (s : List UInt8) (i i' : Nat) (c c2 : UInt8) (x : Sg) (te : Nat) : List PV :=
  [.str s, nI i, nI i', nI s.length, nB c, nI (i' + 1 : Nat), nB c2, nI x.k, nI x.a, .str x.w, nI x.v.1, nI x.v.2.1, nI x.v.2.2.1, .str x.v.2.2.2, nI x.e, nI te]
theorem u8eq {c : UInt8} {n : Nat} {b : Bool} (hn : n < 256) (h : (c == UInt8.ofNat n) = b) : intP .eql .u8 (c.toNat : Int) (n : Int) = some (.bool b) := by
  show some (PV.bool (((c.toNat : Nat) : Int) == (n : Int))) = _
  rw [← h]
  congr 2
  refine Bool.eq_iff_iff.2 ?_
  simp only [beq_iff_eq]
  constructor
  · intro h'
    have h2 : c.toNat = n := by omega
    rw [← h2]; simp
  · intro h'
    rw [h']
    simp only [UInt8.toNat_ofNat']
    omega
theorem read_ev {s : List UInt8} (hs : s.length ≤ 9223372036854775806) (i : Nat) (hi : i ≤ s.length) {c : UInt8} (hc : s[pastN isBlank s i]? = some c) (hx : c = 120 → s[pastN isBlank s i + 1]? ≠ some 39) {x : Sg} {te : Nat}
    (h : (isSmall c = true ∧ Ev PG f_sql_letters [.str s, sgP 0 (pastN isBlank s i : Nat) [] 0] (.tup [x.pv, nI te])) ∨
      (isDigit c = true ∧ Ev PG f_sql_digits [.str s, sgP 0 (pastN isBlank s i : Nat) [] 0] (.tup [x.pv, nI te])) ∨
      (c = 39 ∧ Ev PG f_sql_text [.str s, sgP 0 (pastN isBlank s i : Nat) [] 0] (.tup [x.pv, nI te]))) : Ev PG f_sql_read [.str s, nI i] (.tup [x.pv, nI te]) := by
  generalize hi' : pastN isBlank s i = i' at *
  have hb := past_bd isBlank s i hi
  rw [hi'] at hb
  have hil : i' < s.length := (List.getElem?_eq_some_iff.1 hc).1
  have hp := past_blank hs i hi
  rw [hi'] at hp
  have hne : ¬ (i' : Int) = (s.length : Int) := by omega
  obtain ⟨c2, hc2⟩ : ∃ c2 : UInt8, (i' + 1 < s.length → s[i' + 1]? = some c2) := by
    by_cases h1 : i' + 1 < s.length
    · exact ⟨s[i' + 1], fun _ => List.getElem?_eq_getElem h1⟩
    · exact ⟨0, fun h => absurd h h1⟩
  have e5 : IntKind.i64.wrap ((i' : Int) + 1) = ((i' + 1 : Nat) : Int) := by rw [w6_id (by omega) (by omega)]; omega
  have fB : FactsOk PG (nuL (rdNu s i i' c c2 x te)) rdB := ⟨fprim hp rfl rfl rfl, fStrLen rfl rfl rfl, fCmp (c := false) (a := i') (b := s.length) rfl rfl rfl (by show some (PV.bool ((i' : Int) == (s.length : Int))) = _; rw [beq_eq_false_iff_ne.2 hne]) (by decide) rfl, fStrIx rfl rfl hc rfl rfl, trivial⟩
  have fX : ∃ v, v < 3 ∧ FactsOk PG (nuL (rdNu s i i' c c2 x te)) (rdX v) := by
    by_cases h1 : c = 120
    · subst h1
      by_cases h2 : i' + 1 < s.length
      · refine ⟨2, by decide, fU8 (a := (120 : Nat)) (b := (120 : Nat)) rfl rfl (u8eq (c := 120) (n := 120) (b := true) (by decide) rfl) rfl (by decide) rfl, fInt (a := i') (b := 1) rfl rfl rfl (by simp only [intP]; rw [e5]) (by decide) rfl,
          fCmp (c := true) (a := (i' + 1 : Nat)) (b := s.length) rfl rfl rfl (by simp only [intP]; rw [decide_eq_true (by omega)]) (by decide) rfl, fStrIx (s := s) (n := i' + 1) (c := c2) rfl rfl (hc2 h2) rfl rfl, ?_, trivial⟩
        have h3 : c2 ≠ 39 := fun e => hx rfl (by rw [hc2 h2, e])
        exact fU8 (a := (c2.toNat : Nat)) (b := (39 : Nat)) rfl rfl (u8eq (c := c2) (n := 39) (b := false) (by decide) (beq_eq_false_iff_ne.2 h3)) rfl (by decide) rfl
      · exact ⟨1, by decide, fU8 (a := (120 : Nat)) (b := (120 : Nat)) rfl rfl (u8eq (c := 120) (n := 120) (b := true) (by decide) rfl) rfl (by decide) rfl, fInt (a := i') (b := 1) rfl rfl rfl (by simp only [intP]; rw [e5]) (by decide) rfl,
          fCmp (c := false) (a := (i' + 1 : Nat)) (b := s.length) rfl rfl rfl (by simp only [intP]; rw [decide_eq_false (by omega)]) (by decide) rfl, trivial⟩
    · exact ⟨0, by decide, fU8 (a := (c.toNat : Nat)) (b := (120 : Nat)) rfl rfl (u8eq (c := c) (n := 120) (b := false) (by decide) (beq_eq_false_iff_ne.2 h1)) rfl (by decide) rfl, trivial⟩
  obtain ⟨v, hv, fX⟩ := fX
  have fin : ∀ w, w < 3 → FactsOk PG (nuL (rdNu s i i' c c2 x te)) (rdS w) → Ev PG f_sql_read [.str s, nI i] (.tup [x.pv, nI te]) := fun w hw fS =>
    Ev.facts (nu := nuL (rdNu s i i' c c2 x te)) (args := [.atom 0, .atom 1]) prog_ok (nuL_okB rfl) (okR_eq (List.all_eq_true.1 (List.all_eq_true.1 rd_k v (by rw [List.mem_range]; exact hv)) w (by rw [List.mem_range]; exact hw))) (FactsOk.append fB (FactsOk.append fX fS)) rfl rfl
  rcases h with ⟨h1, h2⟩ | ⟨h1, h2⟩ | ⟨h1, h2⟩
  · have hsm := small_ev c
    rw [h1] at hsm
    exact fin 0 (by decide) ⟨fprim hsm rfl rfl rfl, fprim h2 rfl rfl rfl, trivial⟩
  · have h3 : isSmall c = false := by
      simp only [isDigit, isSmall, Bool.and_eq_true, decide_eq_true_eq] at h1 ⊢
      rw [decide_eq_false (by omega)]; rfl
    have hsm := small_ev c
    have hdg := digit_ev c
    rw [h3] at hsm
    rw [h1] at hdg
    exact fin 1 (by decide) ⟨fprim hsm rfl rfl rfl, fprim hdg rfl rfl rfl, fprim h2 rfl rfl rfl, trivial⟩
  · subst h1
    have hsm := small_ev 39
    have hdg := digit_ev 39
    rw [show isSmall 39 = false from rfl] at hsm
    rw [show isDigit 39 = false from rfl] at hdg
    exact fin 2 (by decide) ⟨fprim hsm rfl rfl rfl, fprim hdg rfl rfl rfl, fU8 (a := (39 : Nat)) (b := (39 : Nat)) rfl rfl (u8eq (c := 39) (n := 39) (b := true) (by decide) rfl) rfl (by decide) rfl, fprim h2 rfl rfl rfl, trivial⟩
end Go.Proofs.YtdlkibeljkapeaaGreatDoor.Den
namespace Go.Proofs.YtdlkibeljkapeaaGreatDoor.Den
open Go Go.RowKit
def hpF (b : Bool) (q : Bool) : List Fact := [.op (.len ty_string) [.atom 0] (.atom 2), .op (.len ty_string) [.atom 1] (.atom 3), oI .geq (.atom 2) (.atom 3) (.bool b), .op (.slice ty_string false true) [.atom 0, .atom 3] (.atom 4), .op (.bin .eql ty_string) [.atom 4, .atom 1] (.bool q)]
theorem hp_k1 : (bl fun q => okR (.bool q) (callF PG (fOrc noOwn (hpF true q)) 10 f_strings_HasPrefix [.atom 0, .atom 1] [])) = true := by kernel_rfl
theorem hp_k0 : okR (.bool false) (callF PG (fOrc noOwn [.op (.len ty_string) [.atom 0] (.atom 2), .op (.len ty_string) [.atom 1] (.atom 3), oI .geq (.atom 2) (.atom 3) (.bool false)]) 10 f_strings_HasPrefix [.atom 0, .atom 1] []) = true := by kernel_rfl
theorem fSliceFr {nu : Nat → PV} {x hi r : PV} {s w : List UInt8} {j : Nat} (h1 : subD nu x = .str s) (h3 : subD nu hi = nI j) (hij : j ≤ s.length) (hw : s.take j = w) (h4 : subD nu r = .str w) (h5 : oneB nu r = true) : FactOk PG nu (.op (.slice ty_string false true) [x, hi] r) := by
  refine ⟨?_, h5⟩
  show sliceP PG ty_string (subD nu x) none (some (subD nu hi)) = some (subD nu r)
  rw [h1, h3, h4]
  unfold sliceP
  rw [u_string]
  have e1 : optBound (some (nI j)) s.length s.length = some j := by
    show (if 0 ≤ (j : Int) ∧ (j : Int) ≤ (s.length : Int) then some ((j : Int).toNat) else none) = _
    rw [if_pos (by omega), Int.toNat_natCast]
  have e2 : optBound none j 0 = some 0 := rfl
  simp only [boundsP, e1, e2, List.drop_zero, hw]
theorem hasPrefix_ev (a m : List UInt8) : Ev PG f_strings_HasPrefix [.str a, .str m] (.bool (m.isPrefixOf a)) := by
  by_cases h : m.length ≤ a.length
  · have e : m.isPrefixOf a = (a.take m.length == m) := by
      refine Bool.eq_iff_iff.2 ?_
      rw [List.isPrefixOf_iff_prefix, List.prefix_iff_eq_take, beq_iff_eq]
      exact eq_comm
    rw [e]
    exact Ev.facts (nu := nuL [.str a, .str m, nI a.length, nI m.length, .str (a.take m.length)]) prog_ok (nuL_okB rfl) (okR_eq (bl_all hp_k1 (a.take m.length == m)))
      ⟨fStrLen rfl rfl rfl, fStrLen rfl rfl rfl, fCmp (c := true) (a := a.length) (b := m.length) rfl rfl rfl (by simp only [intP]; rw [decide_eq_true (by omega)]) (by decide) rfl, fSliceFr rfl rfl h rfl rfl rfl, fStrEq (l := a.take m.length) (m := m) rfl rfl (same_str _ _) rfl rfl, trivial⟩ rfl rfl
  · have e : m.isPrefixOf a = false := by
      rw [Bool.eq_false_iff]
      intro h'
      have := (List.isPrefixOf_iff_prefix.1 h').length_le
      omega
    rw [e]
    exact Ev.facts (nu := nuL [.str a, .str m, nI a.length, nI m.length]) (args := [.atom 0, .atom 1]) prog_ok (nuL_okB rfl) (okR_eq hp_k0)
      ⟨fStrLen rfl rfl rfl, fStrLen rfl rfl rfl, fCmp (c := false) (a := a.length) (b := m.length) rfl rfl rfl (by simp only [intP]; rw [decide_eq_false (by omega)]) (by decide) rfl, trivial⟩ rfl rfl
theorem re_k : okR (.tup [sg0 (.atom 2), .atom 2]) (callF PG (fOrc noOwn [.prim f_sql_past [.atom 0, .atom 1, .fn f_sql_blank [] []] (.atom 2), .op (.len ty_string) [.atom 0] (.atom 3), oI .eql (.atom 2) (.atom 3) (.bool true)]) 20 f_sql_read [.atom 0, .atom 1] []) = true := by kernel_rfl
theorem read_end {s : List UInt8} (hs : s.length ≤ 9223372036854775806) (i : Nat) (hi : i ≤ s.length) (h : pastN isBlank s i = s.length) : Ev PG f_sql_read [.str s, nI i] (.tup [sgP 0 s.length [] 0, nI s.length]) := by
  have hp := past_blank hs i hi
  rw [h] at hp
  exact Ev.facts (nu := nuL [.str s, nI i, nI s.length, nI s.length]) prog_ok (nuL_okB rfl) (okR_eq re_k) ⟨fprim hp rfl rfl rfl, fStrLen rfl rfl rfl, fCmp (c := true) (a := s.length) (b := s.length) rfl rfl rfl (by simp only [intP]; simp) (by decide) rfl, trivial⟩ rfl rfl
def rmF (i : Nat) : List Fact :=
  rdB ++ ([bI .eql (.atom 4) 120 false, .prim f_sql_small [.atom 4] (.bool false), .prim f_sql_digit [.atom 4] (.bool false), bI .eql (.atom 4) 39 false, .prim f_sql_marks [] (strsP marksL), .op (.slice ty_string true false) [.atom 0, .atom 2] (.atom 5), oI .add (.atom 2) (nI 1) (.atom 6), oI .add (.atom 2) (nI 2) (.atom 7)] ++
    (List.range (if i < 11 then i + 1 else 11)).map fun j => .prim f_strings_HasPrefix [.atom 5, .str (marksL.getD j [])] (.bool (Nat.beq j i)))
def mkW (i : Nat) : List UInt8 := marksL.getD i []
theorem rm_k : ((List.range 11).all fun i => okR (.tup [sgA (nI 5) (.atom 2) (.str (mkW i)) (nI 0) (nI 0) (nI 0) (.str []) (nI 0), if i < 2 then .atom 7 else .atom 6]) (callF PG (fOrc noOwn (rmF i)) 20 f_sql_read [.atom 0, .atom 1] [])) = true := by kernel_rfl
theorem rmF_ok {s : List UInt8} (hs : s.length ≤ 9223372036854775805) (i : Nat) (hi : i ≤ s.length) {c : UInt8} (hc : s[pastN isBlank s i]? = some c) (h1 : isSmall c = false) (h2 : isDigit c = false) (h3 : c ≠ 39) (m : Nat)
    (hm : ∀ j, j < (if m < 11 then m + 1 else 11) → (mkW j).isPrefixOf (s.drop (pastN isBlank s i)) = Nat.beq j m) :
    FactsOk PG (nuL [.str s, nI i, nI (pastN isBlank s i : Nat), nI s.length, nB c, .str (s.drop (pastN isBlank s i)), nI (pastN isBlank s i + 1 : Nat), nI (pastN isBlank s i + 2 : Nat)]) (rmF m) := by
  have hp := past_blank (by omega) i hi
  have hb := past_bd isBlank s i hi
  generalize pastN isBlank s i = i' at *
  have hil : i' < s.length := (List.getElem?_eq_some_iff.1 hc).1
  have hne : ¬ (i' : Int) = (s.length : Int) := by omega
  have hsm := small_ev c
  have hdg := digit_ev c
  rw [h1] at hsm
  rw [h2] at hdg
  have h4 : c ≠ 120 := fun e => by subst e; cases h1
  have e1 : IntKind.i64.wrap ((i' : Int) + 1) = ((i' + 1 : Nat) : Int) := by rw [w6_id (by omega) (by omega)]; omega
  have e2 : IntKind.i64.wrap ((i' : Int) + 2) = ((i' + 2 : Nat) : Int) := by rw [w6_id (by omega) (by omega)]; omega
  refine FactsOk.append ⟨fprim hp rfl rfl rfl, fStrLen rfl rfl rfl, fCmp (c := false) (a := i') (b := s.length) rfl rfl rfl (by show some (PV.bool ((i' : Int) == (s.length : Int))) = _; rw [beq_eq_false_iff_ne.2 hne]) (by decide) rfl, fStrIx rfl rfl hc rfl rfl, trivial⟩
    (FactsOk.append ⟨fU8 (a := (c.toNat : Nat)) (b := (120 : Nat)) rfl rfl (u8eq (c := c) (n := 120) (b := false) (by decide) (beq_eq_false_iff_ne.2 h4)) rfl (by decide) rfl, fprim hsm rfl rfl rfl, fprim hdg rfl rfl rfl,
      fU8 (a := (c.toNat : Nat)) (b := (39 : Nat)) rfl rfl (u8eq (c := c) (n := 39) (b := false) (by decide) (beq_eq_false_iff_ne.2 h3)) rfl (by decide) rfl, fprim marks_ev rfl rfl rfl, fSliceTo rfl rfl (by omega) rfl rfl rfl,
      fInt (a := i') (b := 1) rfl rfl rfl (by simp only [intP]; rw [e1]) (by decide) rfl, fInt (a := i') (b := 2) rfl rfl rfl (by simp only [intP]; rw [e2]) (by decide) rfl, trivial⟩ (FactsOk.of fun f hf => ?_))
  obtain ⟨j, hj, rfl⟩ := List.mem_map.1 hf
  rw [List.mem_range] at hj
  have hh := hasPrefix_ev (s.drop i') (mkW j)
  rw [hm j hj] at hh
  exact fprim hh rfl rfl rfl
theorem read_mark {s : List UInt8} (hs : s.length ≤ 9223372036854775805) (i : Nat) (hi : i ≤ s.length) {c : UInt8} (hc : s[pastN isBlank s i]? = some c) (h1 : isSmall c = false) (h2 : isDigit c = false) (h3 : c ≠ 39) (m : Nat) (hm11 : m < 11)
    (hm : ∀ j, j ≤ m → (mkW j).isPrefixOf (s.drop (pastN isBlank s i)) = Nat.beq j m) : Ev PG f_sql_read [.str s, nI i] (.tup [sgP 5 (pastN isBlank s i : Nat) (mkW m) 0, nI (pastN isBlank s i + (if m < 2 then 2 else 1) : Nat)]) := by
  have hk := okR_eq (List.all_eq_true.1 rm_k m (by rw [List.mem_range]; exact hm11))
  have hf := rmF_ok hs i hi hc h1 h2 h3 m (fun j hj => hm j (by rw [if_pos hm11] at hj; omega))
  by_cases hlt : m < 2
  · rw [if_pos hlt] at hk
    rw [if_pos hlt]
    exact Ev.facts prog_ok (nuL_okB rfl) hk hf rfl rfl
  · rw [if_neg hlt] at hk
    rw [if_neg hlt]
    exact Ev.facts prog_ok (nuL_okB rfl) hk hf rfl rfl
end Go.Proofs.YtdlkibeljkapeaaGreatDoor.Den
namespace Go.Proofs.YtdlkibeljkapeaaGreatDoor.Den
open Go Go.RowKit
def eqG4 (b0 b1 b2 b3 : Bool) : Option PV := match (match b0 with | true => (match b1 with | true => (match b2 with | true => (match b3 with | true => some true | false => some false) | false => some false) | false => some false) | false => some false : Option Bool) with | some b => some (PV.bool b) | none => none
theorem eqV_k (a b c a' b' c' : Int) (s s' : List UInt8) : binP PG .eql ty_api_Value (.agg [nI a, nI b, nI c, .str s]) (.agg [nI a', nI b', nI c', .str s']) = eqG4 (a == a') (b == b') (c == c') (s == s') := by kernel_rfl
def vP (v : V4) : PV := .agg [nI v.1, nI v.2.1, nI v.2.2.1, .str v.2.2.2]
theorem eqV_self (v : V4) : binP PG .eql ty_api_Value (vP v) (vP v) = some (.bool true) := by
  unfold vP
  rw [eqV_k]
  simp [eqG4]
end Go.Proofs.YtdlkibeljkapeaaGreatDoor.Den
namespace Go.Proofs.YtdlkibeljkapeaaGreatDoor.Den
open Go Go.RowKit
theorem fStrAdd {nu : Nat → PV} {x y r : PV} {l m : List UInt8} (h1 : subD nu x = .str l) (h2 : subD nu y = .str m) (hl : l.length + m.length ≤ 9223372036854775807) (h3 : subD nu r = .str (l ++ m)) (h4 : oneB nu r = true) : FactOk PG nu (.op (.bin .add ty_string) [x, y] r) :=
  fStrEq h1 h2 (by show (if l.length + m.length ≤ 9223372036854775807 then some (PV.str (l ++ m)) else none) = _; rw [if_pos hl]) h3 h4
end Go.Proofs.YtdlkibeljkapeaaGreatDoor.Den
namespace Go.Proofs.YtdlkibeljkapeaaGreatDoor.Den
open Go Go.RowKit
def trimL (s : List UInt8) : List UInt8 := s.dropWhile (· == 48)
def tlA (b : Bool) : List Fact := [.op (.len ty_string) [.atom 0] (.atom 1), oI .gtr (.atom 1) (nI 0) (.bool b)]
def tlB (q : Bool) : List Fact := tlA true ++ [.op (.index ty_string) [.atom 0, nI 0] (.atom 2), .op (.bin .eql ty_uint8) [.atom 2, .int .u8 48] (.bool q), .op (.slice ty_string true false) [.atom 0, nI 1] (.atom 3)]
noncomputable abbrev tlRun (fs : List Fact) : Option (Ex × St) := execN PG (fOrc noOwn fs) (callF PG (fOrc noOwn fs) 5) ((fOrc noOwn fs).loop f_strings_trimLeftByte) 5 3 (loopAt PG f_strings_trimLeftByte 1) ⟨[(0, .atom 0), (1, .int .u8 48)], []⟩
theorem tl_lone : loneB PG f_strings_trimLeftByte 1 = true := by kernel_rfl
theorem tl_a : runsB (tlRun (tlA false)) (.exit 0) [(0, .atom 0)] [] = true := by kernel_rfl
theorem tl_b : runsB (tlRun (tlB false)) (.exit 0) [(0, .atom 0)] [] = true := by kernel_rfl
theorem tl_c : runsB (tlRun (tlB true)) .normal [(0, .atom 3), (1, .int .u8 48)] [] = true := by kernel_rfl
theorem tl_f : okR (.atom 1) (callF PG (fOrc noOwn [.op (.bin .eql ty_string) [.atom 0, .str []] (.bool false), .loop f_strings_trimLeftByte 1 [(0, .atom 0), (1, .int .u8 48)] [] (.exit 0) [(0, .atom 1)] []]) 10 f_strings_TrimLeft [.atom 0, .str [48]] []) = true := by kernel_rfl
theorem tl_f0 : okR (.atom 0) (callF PG (fOrc noOwn [.op (.bin .eql ty_string) [.atom 0, .str []] (.bool true)]) 10 f_strings_TrimLeft [.atom 0, .str [48]] []) = true := by kernel_rfl
theorem tl_loop : ∀ (s : List UInt8), RunsR PG (ntOf PG f_strings_trimLeftByte) (loopAt PG f_strings_trimLeftByte 1) [(0, .str s), (1, .int .u8 48)] [] (.exit 0) [(0, .str (trimL s))] [] := by
  intro s
  induction s with
  | nil =>
    refine RunsR.leave ?_ (fun h => by cases h)
    exact RunsP.chk (nu := nuL [.str [], nI 0]) prog_ok (nuL_okB rfl) (T := [(0, .atom 0), (1, .int .u8 48)]) (s := []) (T' := [(0, .atom 0)]) (s' := []) tl_lone tl_a ⟨fStrLen (s := []) rfl rfl rfl, fCmp (c := false) (a := 0) (b := 0) rfl rfl rfl rfl (by decide) rfl, trivial⟩ rfl rfl rfl
  | cons c s ih =>
    have hf : ∀ q, (c == 48) = q → FactsOk PG (nuL [.str (c :: s), nI (s.length + 1 : Nat), nB c, .str s]) (tlB q) := fun q hq =>
      ⟨fStrLen (s := c :: s) rfl rfl rfl, fCmp (c := true) (a := (s.length + 1 : Nat)) (b := 0) rfl rfl rfl (by simp only [intP]; rw [decide_eq_true (by omega)]) (by decide) rfl, fStrIx (s := c :: s) (n := 0) (c := c) rfl rfl rfl rfl rfl, fU8 (a := (c.toNat : Nat)) (b := (48 : Nat)) rfl rfl (u8eq (c := c) (n := 48) (by decide) hq) rfl (by decide) rfl,
        fSliceTo (s := c :: s) (i := 1) (w := s) rfl rfl (by simp) rfl rfl rfl, trivial⟩
    cases hq : (c == 48) with
    | false =>
      have e : trimL (c :: s) = c :: s := by unfold trimL; rw [List.dropWhile_cons, hq]; rfl
      rw [e]
      refine RunsR.leave ?_ (fun h => by cases h)
      exact RunsP.chk prog_ok (nuL_okB rfl) (T := [(0, .atom 0), (1, .int .u8 48)]) (s := []) (T' := [(0, .atom 0)]) (s' := []) tl_lone tl_b (hf false hq) rfl rfl rfl
    | true =>
      have e : trimL (c :: s) = trimL s := by unfold trimL; rw [List.dropWhile_cons, hq]; rfl
      rw [e]
      exact RunsR.round (RunsP.chk prog_ok (nuL_okB rfl) (T := [(0, .atom 0), (1, .int .u8 48)]) (s := []) (T' := [(0, .atom 3), (1, .int .u8 48)]) (s' := []) tl_lone tl_c (hf true hq) rfl rfl rfl) ih
theorem trimLeft_ev (s : List UInt8) : Ev PG f_strings_TrimLeft [.str s, .str [48]] (.str (trimL s)) := by
  cases s with
  | nil => exact Ev.facts (nu := nuL [.str []]) prog_ok (nuL_okB rfl) (okR_eq tl_f0) ⟨fStrEq (l := []) (m := []) rfl rfl (same_str _ _) rfl rfl, trivial⟩ rfl rfl
  | cons c s => exact Ev.facts (nu := nuL [.str (c :: s), .str (trimL (c :: s))]) (args := [.atom 0, .str [48]]) prog_ok (nuL_okB rfl) (okR_eq tl_f) ⟨fStrEq (l := c :: s) (m := []) rfl rfl (same_str _ _) rfl rfl, fLoopOk tl_lone (Nat.le_refl _) (tl_loop (c :: s)) rfl, trivial⟩ rfl rfl
def trimR (s : List UInt8) : List UInt8 := (trimL s.reverse).reverse
def trA (b : Bool) : List Fact := [.op (.len ty_string) [.atom 0] (.atom 1), oI .gtr (.atom 1) (nI 0) (.bool b)]
def trB (q : Bool) : List Fact := trA true ++ [oI .sub (.atom 1) (nI 1) (.atom 4), .op (.index ty_string) [.atom 0, .atom 4] (.atom 2), .op (.bin .eql ty_uint8) [.atom 2, .int .u8 48] (.bool q), .op (.slice ty_string false true) [.atom 0, .atom 4] (.atom 3)]
noncomputable abbrev trRun (fs : List Fact) : Option (Ex × St) := execN PG (fOrc noOwn fs) (callF PG (fOrc noOwn fs) 5) ((fOrc noOwn fs).loop f_strings_trimRightByte) 5 3 (loopAt PG f_strings_trimRightByte 1) ⟨[(0, .atom 0), (1, .int .u8 48)], []⟩
theorem tr_lone : loneB PG f_strings_trimRightByte 1 = true := by kernel_rfl
theorem tr_a : runsB (trRun (trA false)) (.exit 0) [(0, .atom 0)] [] = true := by kernel_rfl
theorem tr_b : runsB (trRun (trB false)) (.exit 0) [(0, .atom 0)] [] = true := by kernel_rfl
theorem tr_c : runsB (trRun (trB true)) .normal [(0, .atom 3), (1, .int .u8 48)] [] = true := by kernel_rfl
theorem tr_f : okR (.atom 1) (callF PG (fOrc noOwn [.op (.bin .eql ty_string) [.atom 0, .str []] (.bool false), .loop f_strings_trimRightByte 1 [(0, .atom 0), (1, .int .u8 48)] [] (.exit 0) [(0, .atom 1)] []]) 10 f_strings_TrimRight [.atom 0, .str [48]] []) = true := by kernel_rfl
theorem tr_f0 : okR (.atom 0) (callF PG (fOrc noOwn [.op (.bin .eql ty_string) [.atom 0, .str []] (.bool true)]) 10 f_strings_TrimRight [.atom 0, .str [48]] []) = true := by kernel_rfl
theorem tr_loop : ∀ (r : List UInt8), r.length ≤ 9223372036854775806 → RunsR PG (ntOf PG f_strings_trimRightByte) (loopAt PG f_strings_trimRightByte 1) [(0, .str r.reverse), (1, .int .u8 48)] [] (.exit 0) [(0, .str (trimL r).reverse)] [] := by
  intro r
  induction r with
  | nil =>
    intro _
    refine RunsR.leave ?_ (fun h => by cases h)
    exact RunsP.chk (nu := nuL [.str [], nI 0]) prog_ok (nuL_okB rfl) (T := [(0, .atom 0), (1, .int .u8 48)]) (s := []) (T' := [(0, .atom 0)]) (s' := []) tr_lone tr_a ⟨fStrLen (s := []) rfl rfl rfl, fCmp (c := false) (a := 0) (b := 0) rfl rfl rfl rfl (by decide) rfl, trivial⟩ rfl rfl rfl
  | cons c r ih =>
    intro hl
    have hl' : r.length + 1 ≤ 9223372036854775806 := by simpa using hl
    have el : (c :: r).reverse = r.reverse ++ [c] := by simp
    have e1 : IntKind.i64.wrap (((r.length + 1 : Nat) : Int) - 1) = (r.length : Int) := by rw [w6_id (by omega) (by omega)]; omega
    have hf : ∀ q, (c == 48) = q → FactsOk PG (nuL [.str (r.reverse ++ [c]), nI (r.length + 1 : Nat), nB c, .str r.reverse, nI r.length]) (trB q) := fun q hq =>
      ⟨fStrLen (s := r.reverse ++ [c]) rfl (by simp [subD, nuL]) rfl, fCmp (c := true) (a := (r.length + 1 : Nat)) (b := 0) rfl rfl rfl (by simp only [intP]; rw [decide_eq_true (by omega)]) (by decide) rfl, fInt (a := (r.length + 1 : Nat)) (b := 1) rfl rfl rfl (by simp only [intP]; rw [e1]) (by decide) rfl,
        fStrIx (s := r.reverse ++ [c]) (n := r.length) (c := c) rfl rfl (by rw [List.getElem?_append_right (by simp)]; simp) rfl rfl, fU8 (a := (c.toNat : Nat)) (b := (48 : Nat)) rfl rfl (u8eq (c := c) (n := 48) (by decide) hq) rfl (by decide) rfl,
        fSliceFr (s := r.reverse ++ [c]) (j := r.length) (w := r.reverse) rfl rfl (by simp) (by simp) rfl rfl, trivial⟩
    rw [el]
    cases hq : (c == 48) with
    | false =>
      have e : (trimL (c :: r)).reverse = r.reverse ++ [c] := by unfold trimL; rw [List.dropWhile_cons, hq]; exact el
      rw [e]
      refine RunsR.leave ?_ (fun h => by cases h)
      exact RunsP.chk prog_ok (nuL_okB rfl) (T := [(0, .atom 0), (1, .int .u8 48)]) (s := []) (T' := [(0, .atom 0)]) (s' := []) tr_lone tr_b (hf false hq) rfl rfl rfl
    | true =>
      have e : trimL (c :: r) = trimL r := by unfold trimL; rw [List.dropWhile_cons, hq]; rfl
      rw [e]
      exact RunsR.round (RunsP.chk prog_ok (nuL_okB rfl) (T := [(0, .atom 0), (1, .int .u8 48)]) (s := []) (T' := [(0, .atom 3), (1, .int .u8 48)]) (s' := []) tr_lone tr_c (hf true hq) rfl rfl rfl) (ih (by omega))
theorem trimRight_ev (s : List UInt8) (hs : s.length ≤ 9223372036854775806) : Ev PG f_strings_TrimRight [.str s, .str [48]] (.str (trimR s)) := by
  have hl := tr_loop s.reverse (by simpa using hs)
  rw [List.reverse_reverse] at hl
  cases s with
  | nil => exact Ev.facts (nu := nuL [.str []]) prog_ok (nuL_okB rfl) (okR_eq tr_f0) ⟨fStrEq (l := []) (m := []) rfl rfl (same_str _ _) rfl rfl, trivial⟩ rfl rfl
  | cons c s => exact Ev.facts (nu := nuL [.str (c :: s), .str (trimR (c :: s))]) (args := [.atom 0, .str [48]]) prog_ok (nuL_okB rfl) (okR_eq tr_f) ⟨fStrEq (l := c :: s) (m := []) rfl rfl (same_str _ _) rfl rfl, fLoopOk tr_lone (Nat.le_refl _) hl rfl, trivial⟩ rfl rfl
end Go.Proofs.YtdlkibeljkapeaaGreatDoor.Den
namespace Go.Proofs.YtdlkibeljkapeaaGreatDoor.Den
open Go Go.RowKit
def okRS (e : PV) (s : List Res) : Option (PV × List Res) → Bool
  | some (r, t) => PV.same r e && sameS t s
  | none => false
theorem okRS_eq {e : PV} {s : List Res} {o : Option (PV × List Res)} (h : okRS e s o = true) : o = some (e, s) := by
  cases o with
  | none => cases h
  | some q =>
    simp only [okRS, Bool.and_eq_true] at h
    rw [← same_eq _ _ h.1, ← sameS_eq h.2]
def stX (s k a w v0 v1 v2 v3 e tt dp at_ er : PV) : List Res := [.box [s, k, a, w, v0, v1, v2, v3, e, tt, dp, at_, er]]
def okP (s k a w v0 v1 v2 v3 tt dp : PV) : List Res := stX s k a w v0 v1 v2 v3 (nI 0) tt dp (nI 0) (nI 0)
def okL (s : List UInt8) (x : Sg) (tt dp : Nat) : List Res := okP (.str s) (nI x.k) (nI x.a) (.str x.w) (nI x.v.1) (nI x.v.2.1) (nI x.v.2.2.1) (.str x.v.2.2.2) (nI tt) (nI dp)
def okA (j : Nat) : List Res := okP (.atom 0) (.atom (j + 0)) (.atom (j + 1)) (.atom (j + 2)) (.atom (j + 3)) (.atom (j + 4)) (.atom (j + 5)) (.atom (j + 6)) (.atom (j + 7)) (.atom (j + 8))
def okV (x : Sg) (tt dp : Nat) : List PV := [nI x.k, nI x.a, .str x.w, nI x.v.1, nI x.v.2.1, nI x.v.2.2.1, .str x.v.2.2.2, nI tt, nI dp]
def isM (x : Sg) (m : List UInt8) : Bool := (x.k == 1 || x.k == 5) && x.w == m
def isF (b1 b5 bw : Bool) : List Fact := [oI .eql (.atom 1) (nI 1) (.bool b1), oI .eql (.atom 1) (nI 5) (.bool b5), .op (.bin .eql ty_string) [.atom 3, .atom 10] (.bool bw)]
theorem is_k : bl (fun b1 => bl fun b5 => bl fun bw => okRS (.bool ((b1 || b5) && bw)) (okA 1) (callF PG (fOrc noOwn (isF b1 b5 bw)) 20 f_sql_parser_is [.box 0 0, .atom 10] (okA 1))) = true := by kernel_rfl
theorem i64eq (a b : Int) : intP .eql .i64 a b = some (.bool (a == b)) := rfl
theorem is_ev (s : List UInt8) (x : Sg) (tt dp : Nat) (m : List UInt8) : EvS PG f_sql_parser_is [.box 0 0, .str m] (okL s x tt dp) (.bool (isM x m)) (okL s x tt dp) :=
  EvS.facts (nu := nuL (.str s :: (okV x tt dp ++ [PV.str m]))) (args := [.box 0 0, .atom 10]) (s := okA 1) (s' := okA 1) (r := .bool ((x.k == 1 || x.k == 5) && x.w == m)) prog_ok (nuL_okB rfl) (okRS_eq (bl_all (bl_all (bl_all is_k (x.k == 1)) (x.k == 5)) (x.w == m)))
    ⟨fCmp rfl rfl rfl (i64eq _ _) (by decide) rfl, fCmp rfl rfl rfl (i64eq _ _) (by decide) rfl, fStrEq rfl rfl (same_str _ _) rfl rfl, trivial⟩ rfl rfl rfl
theorem next_k : okRS (.tup []) (okP (.atom 0) (.atom 10) (.atom 11) (.atom 12) (.atom 13) (.atom 14) (.atom 15) (.atom 16) (.atom 17) (.atom 9)) (callF PG (fOrc noOwn [.prim f_sql_read [.atom 0, .atom 8] (.tup [sgA (.atom 10) (.atom 11) (.atom 12) (.atom 13) (.atom 14) (.atom 15) (.atom 16) (nI 0), .atom 17]), oI .eql (.atom 10) (nI 6) (.bool false)]) 20 f_sql_parser_next [.box 0 0] (okA 1)) = true := by kernel_rfl
structure Rd (s : List UInt8) (i : Nat) (x : Sg) (j : Nat) : Prop where
  ev : Ev PG f_sql_read [.str s, nI i] (.tup [x.pv, nI j])
  e : x.e = 0
  k : x.k ≠ 6
theorem next_ev {s : List UInt8} (x : Sg) {tt : Nat} (dp : Nat) {y : Sg} {tu : Nat} (h : Rd s tt y tu) : EvS PG f_sql_parser_next [.box 0 0] (okL s x tt dp) (.tup []) (okL s y tu dp) := by
  obtain ⟨he, h0, hk⟩ := h
  obtain ⟨k, a, w, v, e⟩ := y
  dsimp only at h0 hk
  subst h0
  exact EvS.facts (nu := nuL (.str s :: (okV x tt dp ++ okV ⟨k, a, w, v, 0⟩ tu dp))) (args := [.box 0 0]) prog_ok (nuL_okB rfl) (okRS_eq next_k) ⟨fprim he rfl rfl rfl, fCmp (c := false) rfl rfl rfl (by rw [i64eq, beq_eq_false_iff_ne.2 hk]) (by decide) rfl, trivial⟩ rfl rfl rfl
end Go.Proofs.YtdlkibeljkapeaaGreatDoor.Den
namespace Go.Proofs.YtdlkibeljkapeaaGreatDoor.Den
open Go Go.RowKit
theorem fst1 {nu : Nat → PV} {g : FuncId} {args : List PV} {s s' : List Res} {r : PV} {a : List PV} {b d : List Res} {c : PV} (h : EvS PG g a b c d) (h1 : args.map (subD nu) = a) (h2 : s.map (subRes nu) = b) (h3 : subD nu r = c) (h4 : s'.map (subRes nu) = d) (h5 : (oneB nu r && s'.all (fnRes nu)) = true) : FactOk PG nu (.st g args s r s') :=
  ⟨by rw [h1, h2, h3, h4]; exact h, h5⟩
structure E7 where
  k : PV
  nm : PV
  v0 : PV
  v1 : PV
  v2 : PV
  v3 : PV
  l : PV
def E7.L (r : E7) : List PV := [r.k, r.nm, r.v0, r.v1, r.v2, r.v3, r.l]
def E7.pv (r : E7) : PV := .agg r.L
def E7.ok (r : E7) : Bool := r.L.all fun p => p.clean && p.pure
def E7.zero : E7 := ⟨nI 0, .str [], nI 0, nI 0, nI 0, .str [], .nilslice⟩
def E7.un (k : Int) (r : E7) : E7 := ⟨nI k, .str [], nI 0, nI 0, nI 0, .str [], .slice 7 [r.pv]⟩
def E7.col (w : List UInt8) : E7 := ⟨nI 2, .str w, nI 0, nI 0, nI 0, .str [], .nilslice⟩
theorem E7.pure {r : E7} (h : r.ok = true) : r.pv.pure = true := by
  simp only [E7.ok, E7.L, List.all_cons, List.all_nil, Bool.and_eq_true, Bool.and_true] at h
  simp only [E7.pv, E7.L, PV.pure, PV.pureL, h, Bool.and_self]
abbrev kw (s : String) : List UInt8 := bs s
abbrev isT (st : List Res) (m : String) (b : Bool) : Fact := .st f_sql_parser_is [.box 0 0, .str (kw m)] st (.bool b) st
theorem fIs {nu : Nat → PV} {st : List Res} {m : String} {b : Bool} {s : List UInt8} {x : Sg} {tt dp : Nat} (h1 : st.map (subRes nu) = okL s x tt dp) (h : isM x (kw m) = b) (h2 : st.all (fnRes nu) = true) : FactOk PG nu (isT st m b) := by
  refine fst1 (is_ev s x tt dp (kw m)) rfl h1 (by rw [h]; rfl) h1 ?_
  rw [h2]; rfl
theorem i64ne (a b : Int) : intP .neq .i64 a b = some (.bool (a != b)) := rfl
end Go.Proofs.YtdlkibeljkapeaaGreatDoor.Den
namespace Go.Proofs.YtdlkibeljkapeaaGreatDoor.Den
open Go Go.RowKit
def okD (j d : Nat) : List Res := okP (.atom 0) (.atom (j + 0)) (.atom (j + 1)) (.atom (j + 2)) (.atom (j + 3)) (.atom (j + 4)) (.atom (j + 5)) (.atom (j + 6)) (.atom (j + 7)) (.atom d)
abbrev nextT (a b : List Res) : Fact := .st f_sql_parser_next [.box 0 0] a (.tup []) b
def sv (x : Sg) (tt : Nat) : List PV := [nI x.k, nI x.a, .str x.w, nI x.v.1, nI x.v.2.1, nI x.v.2.2.1, .str x.v.2.2.2, nI tt]
def Any (s : List UInt8) (x : Sg) (tt dp : Nat) (r : E7) (z : Sg) (tz : Nat) : Prop := EvS PG f_sql_parser_any [.box 0 0] (okL s x tt dp) r.pv (okL s z tz dp) ∧ r.ok = true
end Go.Proofs.YtdlkibeljkapeaaGreatDoor.Den
namespace Go.Proofs.YtdlkibeljkapeaaGreatDoor.Den
open Go Go.RowKit
def headNot (p : UInt8 → Bool) : List UInt8 → Bool
  | [] => true
  | c :: _ => !p c
theorem takeWhile_front {p : UInt8 → Bool} : ∀ {g t : List UInt8}, g.all p = true → headNot p t = true → (g ++ t).takeWhile p = g
  | [], [], _, _ => rfl
  | [], c :: t, _, h => by
    simp only [headNot, Bool.not_eq_true'] at h
    simp [h]
  | c :: g, t, hg, h => by
    simp only [List.all_cons, Bool.and_eq_true] at hg
    simp only [List.cons_append, List.takeWhile_cons, hg.1, if_true]
    rw [takeWhile_front hg.2 h]
theorem pastN_of {p : UInt8 → Bool} {s : List UInt8} {i : Nat} {g t : List UInt8} (h : s.drop i = g ++ t) (hg : g.all p = true) (ht : headNot p t = true) : pastN p s i = i + g.length := by
  unfold pastN
  rw [h, takeWhile_front hg ht]
theorem drop_more {s : List UInt8} {i : Nat} {g t : List UInt8} (h : s.drop i = g ++ t) : s.drop (i + g.length) = t := by
  rw [← List.drop_drop, h]; simp
theorem drop_le {s : List UInt8} {i : Nat} {c : UInt8} {t : List UInt8} (h : s.drop i = c :: t) : i < s.length ∧ s[i]? = some c := by
  have hl : i < s.length := by
    rcases Nat.lt_or_ge i s.length with hl | hl
    · exact hl
    · rw [List.drop_eq_nil_of_le hl] at h; cases h
  refine ⟨hl, ?_⟩
  rw [List.drop_eq_getElem_cons hl] at h
  cases h
  exact List.getElem?_eq_getElem hl
def wordSg (w : List UInt8) (a : Nat) : Sg := ⟨if keysL.contains w then 1 else 2, a, w, v0, 0⟩
def markSg (m a : Nat) : Sg := ⟨5, a, mkW m, v0, 0⟩
def endSg (a : Nat) : Sg := ⟨0, a, [], v0, 0⟩
section
variable {s : List UInt8} {i : Nat} {g : List UInt8}
theorem inner_notBlank {c : UInt8} (h : isSmall c = true) : isBlank c = false := by
  simp only [isSmall, Bool.and_eq_true, decide_eq_true_eq] at h
  simp only [isBlank, Bool.or_eq_false_iff, beq_eq_false_iff_ne]
  refine ⟨fun e => ?_, fun e => ?_⟩ <;> subst e <;> simp at h
theorem rd_word (hs : s.length ≤ 9223372036854775805) (hi : i ≤ s.length) {c : UInt8} {w rest : List UInt8} (h : s.drop i = g ++ ((c :: w) ++ rest)) (hg : g.all isBlank = true) (hc : isSmall c = true) (hw : w.all isInner = true) (hr : headNot isInner rest = true)
    (hx : c = 120 → w = [] → rest[0]? ≠ some 39) (hl : w.length ≤ 11) : Rd s i (wordSg (c :: w) (i + g.length)) (i + g.length + (w.length + 1)) := by
  have hci : isInner c = true := by simp [isInner, hc]
  have hall : (c :: w).all isInner = true := by simp [hci, hw]
  have hp := pastN_of h hg (by show (!isBlank c) = true; rw [inner_notBlank hc]; rfl)
  have hd := drop_more h
  obtain ⟨hil, hci'⟩ := drop_le (show s.drop (i + g.length) = c :: (w ++ rest) from hd)
  have hwd : wordAt s (i + g.length) = c :: w := by
    unfold wordAt
    rw [hd, takeWhile_front hall hr]
  have hp2 := pastN_of hd hall hr
  have hl2 := letters_ev (s := s) (by omega) (i + g.length) (by omega)
  rw [hwd, hp2, if_neg (show ¬ 12 < (c :: w).length by rw [List.length_cons]; omega)] at hl2
  refine ⟨?_, rfl, ?_⟩
  · have := read_ev (s := s) (by omega) i hi (c := c) (x := wordSg (c :: w) (i + g.length)) (te := i + g.length + (w.length + 1)) (by rw [hp]; exact hci') (fun e => ?_) (.inl ⟨hc, by rw [hp]; exact hl2⟩)
    · exact this
    · rw [hp]
      have hd2 : s.drop (i + g.length + 1) = w ++ rest := by
        have := drop_more (g := [c]) (t := w ++ rest) hd
        exact this
      have he : s[i + g.length + 1]? = (w ++ rest)[0]? := by rw [← hd2]; simp
      rw [he]
      cases w with
      | nil => exact hx e rfl
      | cons d w =>
        intro h39
        simp at h39
        subst h39
        simp only [List.all_cons, Bool.and_eq_true] at hw
        exact absurd hw.1 (by decide)
  · show (if keysL.contains (c :: w) then (1 : Int) else 2) ≠ 6
    split <;> decide
theorem rd_end (hs : s.length ≤ 9223372036854775806) (hi : i ≤ s.length) (h : s.drop i = g) (hg : g.all isBlank = true) : Rd s i (endSg s.length) s.length := by
  have hp := pastN_of (p := isBlank) (t := []) (g := g) (by rw [h]; simp) hg rfl
  have hl : i + g.length = s.length := by rw [← h, List.length_drop]; omega
  exact ⟨read_end hs i hi (by rw [hp, hl]), rfl, (by show (0 : Int) ≠ 6; decide)⟩
theorem rd_mark (hs : s.length ≤ 9223372036854775805) (hi : i ≤ s.length) (m : Nat) (hm11 : m < 11) {rest : List UInt8} (h : s.drop i = g ++ (mkW m ++ rest)) (hg : g.all isBlank = true)
    (hm : ∀ j, j ≤ m → (mkW j).isPrefixOf (mkW m ++ rest) = Nat.beq j m) : Rd s i (markSg m (i + g.length)) (i + g.length + (if m < 2 then 2 else 1)) := by
  have hk : ∀ m, m < 11 → ∃ c t, mkW m = c :: t ∧ isBlank c = false ∧ isSmall c = false ∧ isDigit c = false ∧ c ≠ 39 := by
    intro m hm
    have : ((List.range 11).all fun m => match mkW m with | c :: _ => !isBlank c && (!isSmall c && (!isDigit c && c != 39)) | [] => false) = true := by decide
    have := List.all_eq_true.1 this m (by rw [List.mem_range]; exact hm)
    cases hq : mkW m with
    | nil => rw [hq] at this; cases this
    | cons c t =>
      rw [hq] at this
      simp only [Bool.and_eq_true, Bool.not_eq_true', bne_iff_ne] at this
      exact ⟨c, t, rfl, this.1, this.2.1, this.2.2.1, this.2.2.2⟩
  obtain ⟨c, t, hc, h1, h2, h3, h4⟩ := hk m hm11
  have hp := pastN_of h hg (by rw [hc]; show (!isBlank c) = true; rw [h1]; rfl)
  have hd := drop_more h
  obtain ⟨hil, hci'⟩ := drop_le (show s.drop (i + g.length) = c :: (t ++ rest) by rw [hd, hc]; rfl)
  have := read_mark hs i hi (c := c) (by rw [hp]; exact hci') h2 h3 h4 m hm11 (fun j hj => by rw [hp, hd]; exact hm j hj)
  rw [hp] at this
  exact ⟨this, rfl, (by show (5 : Int) ≠ 6; decide)⟩
theorem rd_mark' (hs : s.length ≤ 9223372036854775805) (hi : i ≤ s.length) (m : Nat) (hm11 : m < 11) (hm7 : m ≠ 7) {rest : List UInt8} (h : s.drop i = g ++ (mkW m ++ rest)) (hg : g.all isBlank = true) : Rd s i (markSg m (i + g.length)) (i + g.length + (if m < 2 then 2 else 1)) := by
  refine rd_mark hs hi m hm11 h hg (fun j hj => ?_)
  have hj11 : j < 11 := by omega
  clear h
  match m, j, hm11, hm7, hj with
  | 0, 0, _, _, _ => rfl
  | 1, 0, _, _, _ | 1, 1, _, _, _ => rfl
  | 2, 0, _, _, _ | 2, 1, _, _, _ | 2, 2, _, _, _ => rfl
  | 3, 0, _, _, _ | 3, 1, _, _, _ | 3, 2, _, _, _ | 3, 3, _, _, _ => rfl
  | 4, 0, _, _, _ | 4, 1, _, _, _ | 4, 2, _, _, _ | 4, 3, _, _, _ | 4, 4, _, _, _ => rfl
  | 5, 0, _, _, _ | 5, 1, _, _, _ | 5, 2, _, _, _ | 5, 3, _, _, _ | 5, 4, _, _, _ | 5, 5, _, _, _ => rfl
  | 6, 0, _, _, _ | 6, 1, _, _, _ | 6, 2, _, _, _ | 6, 3, _, _, _ | 6, 4, _, _, _ | 6, 5, _, _, _ | 6, 6, _, _, _ => rfl
  | 8, 0, _, _, _ | 8, 1, _, _, _ | 8, 2, _, _, _ | 8, 3, _, _, _ | 8, 4, _, _, _ | 8, 5, _, _, _ | 8, 6, _, _, _ | 8, 7, _, _, _ | 8, 8, _, _, _ => rfl
  | 9, 0, _, _, _ | 9, 1, _, _, _ | 9, 2, _, _, _ | 9, 3, _, _, _ | 9, 4, _, _, _ | 9, 5, _, _, _ | 9, 6, _, _, _ | 9, 7, _, _, _ | 9, 8, _, _, _ | 9, 9, _, _, _ => rfl
  | 10, 0, _, _, _ | 10, 1, _, _, _ | 10, 2, _, _, _ | 10, 3, _, _, _ | 10, 4, _, _, _ | 10, 5, _, _, _ | 10, 6, _, _, _ | 10, 7, _, _, _ | 10, 8, _, _, _ | 10, 9, _, _, _ | 10, 10, _, _, _ => rfl
end
end Go.Proofs.YtdlkibeljkapeaaGreatDoor.Den
namespace Go.Proofs.YtdlkibeljkapeaaGreatDoor.Den
open Go Go.RowKit
section
variable {s : List UInt8} (hs : s.length ≤ 9223372036854775805)
include hs
omit hs in
omit hs in
end
end Go.Proofs.YtdlkibeljkapeaaGreatDoor.Den
namespace Go.Proofs.YtdlkibeljkapeaaGreatDoor.Den
open Go Go.RowKit
theorem w3_kt : callF PG (fOrc (fun _ _ => false) [.op (.bin .rem ty_int) [.atom 0, .atom 1] (.atom 2), .op (.bin .lss ty_int) [.atom 2, .int .i64 0] (.bool true), .op (.bin .add ty_int) [.atom 2, .atom 1] (.atom 3)]) 5 f_l3_within [.atom 0, .atom 1] [] = some (.atom 3, []) := by kernel_rfl
theorem w3_kf : callF PG (fOrc (fun _ _ => false) [.op (.bin .rem ty_int) [.atom 0, .atom 1] (.atom 2), .op (.bin .lss ty_int) [.atom 2, .int .i64 0] (.bool false)]) 5 f_l3_within [.atom 0, .atom 1] [] = some (.atom 2, []) := by kernel_rfl
theorem within3_ev (a n : Int) (hn : n ≠ 0) : Ev PG f_l3_within [.int .i64 a, .int .i64 n] (.int .i64 (wthn a n)) := by
  by_cases hc : a.tmod n < 0
  · have e : wthn a n = IntKind.i64.wrap (a.tmod n + n) := if_pos hc
    rw [e]
    exact Ev.facts prog_ok (nuL_okB (l := [.int .i64 a, .int .i64 n, .int .i64 (a.tmod n), .int .i64 (IntKind.i64.wrap (a.tmod n + n))]) rfl)
      w3_kt ⟨fInt rfl rfl rfl (by simp [intP, hn]) (by decide) rfl, fCmp rfl rfl rfl (by simp [intP, hc]) (by decide) rfl, fInt rfl rfl rfl rfl (by decide) rfl, trivial⟩ rfl rfl
  · have e : wthn a n = a.tmod n := if_neg hc
    rw [e]
    exact Ev.facts prog_ok (nuL_okB (l := [.int .i64 a, .int .i64 n, .int .i64 (a.tmod n)]) rfl)
      w3_kf ⟨fInt rfl rfl rfl (by simp [intP, hn]) (by decide) rfl, fCmp rfl rfl rfl (by simp [intP, hc]) (by decide) rfl, trivial⟩ rfl rfl
def knF : List Fact := kF ++ [cutF (bs "5"), itoaF (-5, [45, 53])]
theorem known_k : okR (.bool true) (callF PG (fOrc noOwn knF) 70 f_l3_known [] []) = true := by kernel_rfl
theorem itoa5 : ([45, 53] : List UInt8) = Lib.itoa (-5) := by kernel_rfl
theorem known_ev : Ev PG f_l3_known [] (.bool true) :=
  Ev.facts (nu := nuL []) (args := []) prog_ok (nuL_okB rfl) (okR_eq known_k) ⟨fprim keys_ev rfl rfl rfl, fprim marks_ev rfl rfl rfl, fprim (cut_ev (bs "5") [46] (by decide)) rfl rfl rfl, fprim (itoa_ev (-5) (by decide)) rfl (congrArg PV.str itoa5) rfl, trivial⟩ rfl rfl
end Go.Proofs.YtdlkibeljkapeaaGreatDoor.Den
namespace Go.Proofs.YtdlkibeljkapeaaGreatDoor.Den
open Go Go.RowKit
abbrev rdT (i : Nat) (k : Int) (a : Nat) (w : String) (j : Nat) : Fact := .prim f_sql_read [.atom 0, nI i] (.tup [sgP k a (kw w) 0, nI j])
def selF0 : List Fact := [.op (.len ty_string) [.atom 0] (.atom 1), oI .gtr (.atom 1) (nI 4000) (.bool false)]
def selY : List Res := okP (.atom 0) (.atom 10) (.atom 11) (.atom 12) (.atom 13) (.atom 14) (.atom 15) (.atom 16) (.atom 17) (nI 0)
def tableZ : List PV := [.str [], .nilslice, nI 0, .nilslice, nI 0, .str [], nI 0, nI 0, nI 0, .str [], .nilslice, .nilslice]
def stmtP (k : PV) (T : List PV) (nm col dst row : PV) (e w : List PV) : PV := .agg (k :: (T ++ ([nm, col, dst, row] ++ (e ++ w))))
end Go.Proofs.YtdlkibeljkapeaaGreatDoor.Den
namespace Go.Proofs.YtdlkibeljkapeaaGreatDoor.Den
open Go Go.RowKit
end Go.Proofs.YtdlkibeljkapeaaGreatDoor.Den
namespace Go.Proofs.YtdlkibeljkapeaaGreatDoor.Den
open Go Go.RowKit
section
variable {s rest : List UInt8}
theorem sel0_ok {nu : Nat → PV} (h0 : nu 0 = .str s) (h1 : nu 1 = nI s.length) (hl : s.length ≤ 4000) : FactsOk PG nu selF0 :=
  ⟨fStrLen h0 h1 (by show (nu 1).one = true; rw [h1]; rfl), fCmp (c := false) (a := s.length) (b := 4000) h1 rfl rfl (by simp only [intP]; rw [decide_eq_false (by omega)]) (by decide) rfl, trivial⟩
end
end Go.Proofs.YtdlkibeljkapeaaGreatDoor.Den
namespace Go.Proofs.YtdlkibeljkapeaaGreatDoor.Den
open Go Go.RowKit
theorem wthn_nat (n : Int) (m : Nat) (h0 : 0 < m) (h1 : m ≤ 9223372036854775807) : ∃ k : Nat, wthn n m = k ∧ k < m := by
  unfold wthn
  have h2 := Int.tmod_lt_of_pos n (show (0 : Int) < m by omega)
  have h3 : -(m : Int) < n.tmod m := by
    have := Int.lt_tmod_of_pos n (show (0 : Int) < m by omega)
    omega
  split
  · rw [w6_id (by omega) (by omega)]
    exact ⟨(n.tmod m + m).toNat, by omega, by omega⟩
  · exact ⟨(n.tmod m).toNat, by omega, by omega⟩
end Go.Proofs.YtdlkibeljkapeaaGreatDoor.Den
namespace Go.Proofs.YtdlkibeljkapeaaGreatDoor.Den
open Go Go.RowKit
def numZ (l : List UInt8) (n : Int) : Int := l.foldl (fun n c => 10 * n - ((c.toNat : Int) - 48)) n
theorem numZ_le : ∀ (l : List UInt8) {n : Int}, l.all isDigit = true → n ≤ 0 → numZ l n ≤ n
  | [], n, _, _ => Int.le_refl n
  | c :: l, n, h, hn => by
    simp only [List.all_cons, Bool.and_eq_true, isDigit, decide_eq_true_eq] at h
    have := numZ_le l (n := 10 * n - ((c.toNat : Int) - 48)) (by simpa [isDigit] using h.2) (by omega)
    show numZ l (10 * n - ((c.toNat : Int) - 48)) ≤ n
    omega
def meT : List (Nat × PV) := [(1, .atom 0), (4, .box 0 0), (7, .atom 1), (8, .atom 2), (9, .atom 3), (10, .atom 4), (32, .atom 5), (33, .atom 6)]
def meS : List Res := [.box [nI 0, nI 0, nI 0, .str []]]
def meA (b : Bool) : List Fact := [oI .lss (.atom 6) (.atom 5) (.bool b)]
def meB : List Fact := [.op (.index ty_string) [.atom 3, .atom 6] (.atom 7), .op (.bin .sub ty_uint8) [.atom 7, .int .u8 48] (.atom 8), .op (.conv ty_uint8 ty_int) [.atom 8] (.atom 9), oI .add (nI (-9223372036854775808)) (.atom 9) (.atom 10), oI .quo (.atom 10) (nI 10) (.atom 11), oI .lss (.atom 4) (.atom 11) (.bool false),
  oI .mul (nI 10) (.atom 4) (.atom 12), oI .sub (.atom 12) (.atom 9) (.atom 13), oI .add (.atom 6) (nI 1) (.atom 14)]
noncomputable abbrev meRun (fs : List Fact) : Option (Ex × St) := execN PG (fOrc noOwn fs) (callF PG (fOrc noOwn fs) 5) ((fOrc noOwn fs).loop f_sql_meant) 5 3 (loopAt PG f_sql_meant 9) ⟨meT, meS⟩
theorem me_lone : loneB PG f_sql_meant 9 = true := by kernel_rfl
theorem me_a : runsB (meRun (meA false)) (.exit 0) [(1, .atom 0), (4, .box 0 0), (7, .atom 1), (8, .atom 2), (10, .atom 4)] meS = true := by kernel_rfl
theorem me_b : runsB (meRun (meA true ++ meB)) .normal [(1, .atom 0), (4, .box 0 0), (7, .atom 1), (8, .atom 2), (9, .atom 3), (10, .atom 13), (32, .atom 5), (33, .atom 14)] meS = true := by kernel_rfl
theorem fU8Int {nu : Nat → PV} {x r : PV} {n : Int} (h1 : subD nu x = .int .u8 n) (h2 : subD nu r = nI n) (hn : -9223372036854775808 ≤ n ∧ n ≤ 9223372036854775807) (h3 : oneB nu r = true) : FactOk PG nu (.op (.conv ty_uint8 ty_int) [x] r) := by
  refine ⟨?_, h3⟩
  show convP PG ty_uint8 ty_int (subD nu x) = some (subD nu r)
  rw [h1, h2]
  have e1 : PG.underlying ty_uint8 = some (.int .u8) := by kernel_rfl
  have e2 : PG.underlying ty_int = some (.int .i64) := by kernel_rfl
  unfold convP
  rw [e1, e2]
  show some (PV.int .i64 (IntKind.i64.wrap n)) = _
  rw [w6_id hn.1 hn.2]
def meNu (b q : Bool) (p all : List UInt8) (n : Int) (i : Nat) (c : UInt8) : List PV :=
  [.bool b, .str p, .bool q, .str all, nI n, nI all.length, nI i, nB c, .int .u8 ((c.toNat : Int) - 48), nI ((c.toNat : Int) - 48), nI (-9223372036854775808 + ((c.toNat : Int) - 48)), nI ((-9223372036854775808 + ((c.toNat : Int) - 48)).tdiv 10), nI (10 * n), nI (10 * n - ((c.toNat : Int) - 48)), nI (i + 1 : Nat)]
set_option maxRecDepth 20000 in
theorem me_loop (b q : Bool) (p : List UInt8) {all : List UInt8} (hs : all.length ≤ 19) : ∀ (l : List UInt8) (n : Int) (i : Nat), all.drop i = l → i ≤ all.length → l.all isDigit = true → n ≤ 0 → -9223372036854775808 ≤ numZ l n →
    RunsR PG (ntOf PG f_sql_meant) (loopAt PG f_sql_meant 9) [(1, .bool b), (4, .box 0 0), (7, .str p), (8, .bool q), (9, .str all), (10, nI n), (32, nI all.length), (33, nI i)] meS (.exit 0) [(1, .bool b), (4, .box 0 0), (7, .str p), (8, .bool q), (10, nI (numZ l n))] meS := by
  intro l
  induction l with
  | nil =>
    intro n i hi h1 _ _ _
    have hlen : all.length ≤ i := by
      have := congrArg List.length hi
      simp at this; omega
    refine RunsR.leave ?_ (fun h => by cases h)
    exact RunsP.chk (nu := nuL (meNu b q p all n i 0)) prog_ok (nuL_okB rfl) (T := meT) (s := meS) (T' := [(1, .atom 0), (4, .box 0 0), (7, .atom 1), (8, .atom 2), (10, .atom 4)]) (s' := meS) me_lone me_a
      ⟨fCmp (c := false) (a := i) (b := all.length) rfl rfl rfl (by simp only [intP]; rw [decide_eq_false (by omega)]) (by decide) rfl, trivial⟩ rfl rfl rfl
  | cons c l ih =>
    intro n i hi h1 hd hn hb
    have hx : all[i]? = some c := by
      have := congrArg (fun z => z[0]?) hi
      simpa using this
    have hil : i < all.length := (List.getElem?_eq_some_iff.1 hx).1
    have hl : all.drop (i + 1) = l := by
      have := congrArg List.tail hi
      simpa using this
    simp only [List.all_cons, Bool.and_eq_true] at hd
    have hdc := hd.1
    simp only [isDigit, Bool.and_eq_true, decide_eq_true_eq] at hdc
    have hb' : -9223372036854775808 ≤ numZ l (10 * n - ((c.toNat : Int) - 48)) := hb
    have hle := numZ_le l hd.2 (n := 10 * n - ((c.toNat : Int) - 48)) (by omega)
    have hr := ih (10 * n - ((c.toNat : Int) - 48)) (i + 1) hl (by omega) hd.2 (by omega) hb'
    refine RunsR.round ?_ hr
    have ht : (-9223372036854775808 + ((c.toNat : Int) - 48)).tdiv 10 = -((9223372036854775808 - ((c.toNat : Int) - 48)) / 10) := by
      rw [show (-9223372036854775808 + ((c.toNat : Int) - 48)) = -(9223372036854775808 - ((c.toNat : Int) - 48)) by omega, Int.neg_tdiv, Int.tdiv_eq_ediv_of_nonneg (by omega)]
    have e1 : IntKind.i64.wrap (-9223372036854775808 + ((c.toNat : Int) - 48)) = -9223372036854775808 + ((c.toNat : Int) - 48) := w6_id (by omega) (by omega)
    have e2 : IntKind.i64.wrap ((-9223372036854775808 + ((c.toNat : Int) - 48)).tdiv 10) = (-9223372036854775808 + ((c.toNat : Int) - 48)).tdiv 10 := w6_id (by rw [ht]; omega) (by rw [ht]; omega)
    have e3 : IntKind.i64.wrap (10 * n) = 10 * n := w6_id (by omega) (by omega)
    have e4 : IntKind.i64.wrap (10 * n - ((c.toNat : Int) - 48)) = 10 * n - ((c.toNat : Int) - 48) := w6_id (by omega) (by omega)
    have e5 : IntKind.i64.wrap ((i : Int) + 1) = ((i + 1 : Nat) : Int) := by rw [w6_id (by omega) (by omega)]; omega
    have e6 : IntKind.u8.wrap ((c.toNat : Int) - 48) = (c.toNat : Int) - 48 := Go.IntWalk.u8_in _ ⟨by omega, by omega⟩
    have hlt : ¬ n < (-9223372036854775808 + ((c.toNat : Int) - 48)).tdiv 10 := by rw [ht]; omega
    exact RunsP.chk (nu := nuL (meNu b q p all n i c)) prog_ok (nuL_okB rfl) (T := meT) (s := meS) (T' := [(1, .atom 0), (4, .box 0 0), (7, .atom 1), (8, .atom 2), (9, .atom 3), (10, .atom 13), (32, .atom 5), (33, .atom 14)]) (s' := meS) me_lone me_b
      (FactsOk.append ⟨fCmp (c := true) (a := i) (b := all.length) rfl rfl rfl (by simp only [intP]; rw [decide_eq_true (by omega)]) (by decide) rfl, trivial⟩
      ⟨fStrIx rfl rfl hx rfl rfl, fU8 (a := c.toNat) (b := 48) (p := .int .u8 ((c.toNat : Int) - 48)) rfl rfl (by simp only [intP]; rw [e6]) rfl (by decide) rfl, fU8Int rfl rfl (by omega) rfl, fInt (a := -9223372036854775808) (b := (c.toNat : Int) - 48) rfl rfl rfl (by simp only [intP]; rw [e1]) (by decide) rfl,
        fInt (a := -9223372036854775808 + ((c.toNat : Int) - 48)) (b := 10) rfl rfl rfl (by simp [intP]; rw [e2]) (by decide) rfl, fCmp (c := false) rfl rfl rfl (by simp only [intP]; rw [decide_eq_false hlt]) (by decide) rfl,
        fInt (a := 10) (b := n) rfl rfl rfl (by simp only [intP]; rw [e3]) (by decide) rfl, fInt (a := 10 * n) (b := (c.toNat : Int) - 48) rfl rfl rfl (by simp only [intP]; rw [e4]) (by decide) rfl, fInt (a := i) (b := 1) rfl rfl rfl (by simp only [intP]; rw [e5]) (by decide) rfl, trivial⟩) rfl rfl rfl
end Go.Proofs.YtdlkibeljkapeaaGreatDoor.Den
namespace Go.Proofs.YtdlkibeljkapeaaGreatDoor.Den
open Go Go.RowKit
theorem index_at : ∀ {w : List UInt8} (p : List UInt8), w.all isDigit = true → Lib.index (w ++ 46 :: p) [46] = w.length
  | [], p, _ => by
    show Lib.index (46 :: p) [46] = 0
    unfold Lib.index
    simp [List.isPrefixOf]
  | c :: l, p, h => by
    simp only [List.all_cons, Bool.and_eq_true] at h
    have hc : ([46] : List UInt8).isPrefixOf (c :: (l ++ 46 :: p)) = false := by
      have h1 := h.1
      simp only [isDigit, Bool.and_eq_true, decide_eq_true_eq] at h1
      simp only [List.isPrefixOf, Bool.and_true, beq_eq_false_iff_ne]
      intro e; subst e; simp at h1
    show Lib.index (c :: (l ++ 46 :: p)) [46] = _
    unfold Lib.index
    rw [hc, index_at p h.2]
    have : ((l.length : Int) == -1) = false := by rw [beq_eq_false_iff_ne]; omega
    simp [this]
theorem cut_at {w : List UInt8} (p : List UInt8) (h : w.all isDigit = true) : Lib.cut (w ++ 46 :: p) [46] = (w, p, true) := by
  unfold Lib.cut
  rw [index_at p h, if_pos (by omega), Int.toNat_natCast]
  simp
theorem numZ_pow : ∀ (l : List UInt8) {n : Int}, l.all isDigit = true → numZ l n ≤ 10 ^ l.length * n
  | [], n, _ => by simp [numZ]
  | c :: l, n, h => by
    simp only [List.all_cons, Bool.and_eq_true] at h
    have h1 := h.1
    simp only [isDigit, Bool.and_eq_true, decide_eq_true_eq] at h1
    have := numZ_pow l (n := 10 * n - ((c.toNat : Int) - 48)) h.2
    have h3 : (10 : Int) ^ l.length * (10 * n - ((c.toNat : Int) - 48)) ≤ 10 ^ l.length * (10 * n) := Int.mul_le_mul_of_nonneg_left (by omega) (Int.pow_nonneg (by decide))
    have h4 : (10 : Int) ^ (l.length + 1) * n = 10 ^ l.length * (10 * n) := by rw [Int.pow_succ, Int.mul_assoc]
    show numZ l (10 * n - ((c.toNat : Int) - 48)) ≤ 10 ^ (l.length + 1) * n
    rw [h4]; omega
theorem trimL_all : ∀ {l : List UInt8} {p : UInt8 → Bool}, l.all p = true → (trimL l).all p = true
  | [], _, _ => rfl
  | c :: l, p, h => by
    simp only [List.all_cons, Bool.and_eq_true] at h
    unfold trimL
    rw [List.dropWhile_cons]
    split
    · exact trimL_all h.2
    · simp [h.1, h.2]
theorem trimL_len : ∀ {l : List UInt8}, l.all isDigit = true → -9223372036854775808 ≤ numZ (trimL l) 0 → (trimL l).length ≤ 19
  | [], _, _ => by simp [trimL]
  | c :: l, h, hb => by
    simp only [List.all_cons, Bool.and_eq_true] at h
    unfold trimL at hb ⊢
    rw [List.dropWhile_cons] at hb ⊢
    split
    · rename_i hc
      rw [if_pos hc] at hb
      exact trimL_len h.2 hb
    · rename_i hc
      rw [if_neg hc] at hb
      have h1 := h.1
      simp only [isDigit, Bool.and_eq_true, decide_eq_true_eq] at h1
      have h48 : c.toNat ≠ 48 := fun e => hc (by rw [beq_iff_eq, ← UInt8.toNat_inj]; exact e)
      have hb' : -9223372036854775808 ≤ numZ l (10 * 0 - ((c.toNat : Int) - 48)) := hb
      have h2 := numZ_pow l (n := 10 * 0 - ((c.toNat : Int) - 48)) h.2
      have h3 : (10 : Int) ^ l.length * (10 * 0 - ((c.toNat : Int) - 48)) ≤ 10 ^ l.length * (-1) := Int.mul_le_mul_of_nonneg_left (by omega) (Int.pow_nonneg (by decide))
      rcases Nat.lt_or_ge l.length 19 with hl | hl
      · rw [List.length_cons]; omega
      · have h4 : (10 : Int) ^ 19 ≤ 10 ^ l.length := by exact_mod_cast Nat.pow_le_pow_right (by decide) hl
        have h5 : (10 : Int) ^ 19 = 10000000000000000000 := by decide
        omega
end Go.Proofs.YtdlkibeljkapeaaGreatDoor.Den
namespace Go.Proofs.YtdlkibeljkapeaaGreatDoor.Den
open Go Go.RowKit
theorem i64eqL (a b : Int) : intP .eql .i64 a b = some (.bool (a == b)) := rfl
def rdF2 (z : Bool) : List Fact := [oI .leq (.atom 0) (nI (-1000000000000000)) (.bool false), oI .geq (.atom 0) (nI 1000000000000000) (.bool false), oI .rem (.atom 0) (nI 10) (.atom 1), oI .eql (.atom 1) (nI 0) (.bool z)]
def rdE2 (k : Nat) : List Fact := [.op (.bin .eql ty_api_Value) [.agg [nI 3, .atom 0, nI k, .str []], .agg [nI 3, .atom 0, nI k, .str []]] (.bool true)]
theorem rd_k0 : bl (fun z => okR (.bool true) (callF PG (fOrc noOwn (rdF2 z ++ rdE2 0)) 10 f_val_Right [.agg [nI 3, .atom 0, nI 0, .str []]] [])) = true := by kernel_rfl
theorem rd_k1 : ((List.range 7).all fun k => okR (.bool true) (callF PG (fOrc noOwn (rdF2 false ++ rdE2 k)) 10 f_val_Right [.agg [nI 3, .atom 0, nI k, .str []]] [])) = true := by kernel_rfl
theorem right_dec {n : Int} {k : Nat} (h1 : -1000000000000000 < n) (h2 : n < 1000000000000000) (hk : k ≤ 6) (h3 : k = 0 ∨ n.tmod 10 ≠ 0) : Ev PG f_val_Right [vP (3, n, k, [])] (.bool true) := by
  have hf : ∀ z, (n.tmod 10 == 0) = z → FactsOk PG (nuL [nI n, nI (n.tmod 10)]) (rdF2 z ++ rdE2 k) := fun z hz =>
    FactsOk.append ⟨fCmp (c := false) (a := n) (b := -1000000000000000) rfl rfl rfl (by simp only [intP]; rw [decide_eq_false (by omega)]) (by decide) rfl, fCmp (c := false) (a := n) (b := 1000000000000000) rfl rfl rfl (by simp only [intP]; rw [decide_eq_false (by omega)]) (by decide) rfl,
      fInt (a := n) (b := 10) rfl rfl rfl (by simp [intP]) (by decide) rfl, fCmp (c := z) rfl rfl rfl (by rw [i64eqL, hz]) (by decide) rfl, trivial⟩ ⟨⟨eqV_self (3, n, k, []), rfl⟩, trivial⟩
  rcases Nat.eq_zero_or_pos k with rfl | hkp
  · exact Ev.facts (args := [.agg [nI 3, .atom 0, nI 0, .str []]]) prog_ok (nuL_okB rfl) (okR_eq (bl_all rd_k0 _)) (hf _ rfl) rfl rfl
  · have hz : (n.tmod 10 == 0) = false := by rw [beq_eq_false_iff_ne]; rcases h3 with h3 | h3 <;> omega
    exact Ev.facts (args := [.agg [nI 3, .atom 0, nI k, .str []]]) prog_ok (nuL_okB rfl) (okR_eq (List.all_eq_true.1 rd_k1 k (by rw [List.mem_range]; omega))) (hf _ hz) rfl rfl
def mtP (q : Bool) : PV := match q with | true => .atom 3 | false => .atom 2
def mtN (b : Bool) : PV := match b with | true => .atom 7 | false => .atom 8
def mtL (b q : Bool) : Fact := .loop f_sql_meant 9 [(1, .bool b), (4, .box 0 0), (7, mtP q), (8, .bool q), (9, .atom 5), (10, nI 0), (32, .atom 6), (33, nI 0)] meS (.exit 0) [(1, .bool b), (4, .box 0 0), (7, mtP q), (8, .bool q), (10, .atom 7)] meS
def mtF (b q : Bool) : List Fact := [.prim f_strings_Cut [.atom 0, .str [46]] (.tup [.atom 1, .atom 2, .bool q]), .prim f_strings_TrimRight [.atom 2, .str [48]] (.atom 3), .op (.bin .add ty_string) [.atom 1, mtP q] (.atom 4), .prim f_strings_TrimLeft [.atom 4, .str [48]] (.atom 5),
  .op (.len ty_string) [.atom 5] (.atom 6), oI .gtr (.atom 6) (nI 19) (.bool false), mtL b q]
def mtS : Bool → List Fact
  | true => []
  | false => [oI .eql (.atom 7) (nI (-9223372036854775808)) (.bool false), .op (.un .neg) [.atom 7] (.atom 8)]
def mtDec (b z : Bool) : List Fact := [.op (.len ty_string) [.atom 3] (.atom 9), oI .eql (mtN b) (nI 0) (.bool z), .prim f_val_Right [.agg [nI 3, mtN b, if z then nI 0 else .atom 9, .str []]] (.bool true)]
theorem mt_k2 : bl (fun b => bl fun z => okR (.tup [.agg [nI 3, mtN b, if z then nI 0 else .atom 9, .str []], .bool true]) (callF PG (fOrc noOwn (mtF b true ++ (mtS b ++ mtDec b z))) 10 f_sql_meant [.atom 0, .bool b] [])) = true := by kernel_rfl
theorem fNeg {nu : Nat → PV} {x r : PV} {n : Int} (h1 : subD nu x = nI n) (h2 : subD nu r = nI (-n)) (hn : -9223372036854775808 < n ∧ n ≤ 9223372036854775807) (h3 : oneB nu r = true) : FactOk PG nu (.op (.un .neg) [x] r) := by
  refine ⟨?_, h3⟩
  show unP .neg (subD nu x) = some (subD nu r)
  rw [h1, h2]
  show some (PV.int .i64 (IntKind.i64.wrap (0 - n))) = _
  rw [w6_id (by omega) (by omega), Int.zero_sub]
def mtV (b : Bool) (n : Int) : Int := if b then n else -n
def mtNu (s w p pt a all : List UInt8) (n : Int) : List PV := [.str s, .str w, .str p, .str pt, .str a, .str all, nI all.length, nI n, nI (-n), nI pt.length]
section
variable {s w p : List UInt8}
theorem mtF_ok (b q : Bool) (hlen : s.length ≤ 4000000000) (hcut : Lib.cut s [46] = (w, p, q)) (hw : w.length ≤ 4000000000) (hp : p.length ≤ 4000000000) {pt : List UInt8} (hpt : pt = if q then trimR p else p) (hd : (w ++ pt).all isDigit = true) (hb : -9223372036854775808 ≤ numZ (trimL (w ++ pt)) 0) :
    FactsOk PG (nuL (mtNu s w p (trimR p) (w ++ pt) (trimL (w ++ pt)) (numZ (trimL (w ++ pt)) 0))) (mtF b q) := by
  have hc := cut_ev s [46] (by omega)
  rw [hcut] at hc
  have htr := trimRight_ev p (by omega)
  have hall := trimL_len hd hb
  have hdg := trimL_all hd
  have hl := me_loop b q pt hall (trimL (w ++ pt)) 0 0 rfl (Nat.zero_le _) hdg (Int.le_refl 0) hb
  have hptl : pt.length ≤ 4000000000 := by
    rw [hpt]
    cases q with
    | false => exact hp
    | true =>
      have : (trimR p).length ≤ p.length := by
        unfold trimR trimL
        rw [List.length_reverse]
        have := (List.dropWhile_suffix (l := p.reverse) (· == 48)).length_le
        simpa using this
      show (trimR p).length ≤ _
      omega
  cases q with
  | false =>
    have hpt : pt = p := hpt
    subst hpt
    exact ⟨fprim hc rfl rfl rfl, fprim htr rfl rfl rfl, fStrAdd (l := w) (m := pt) rfl rfl (by omega) rfl rfl, fprim (trimLeft_ev _) rfl rfl rfl, fStrLen rfl rfl rfl, fCmp (c := false) (a := (trimL (w ++ pt)).length) (b := 19) rfl rfl rfl (by simp only [intP]; rw [decide_eq_false (by omega)]) (by decide) rfl, fLoopOk me_lone (Nat.le_refl _) hl rfl, trivial⟩
  | true =>
    have hpt : pt = trimR p := hpt
    subst hpt
    exact ⟨fprim hc rfl rfl rfl, fprim htr rfl rfl rfl, fStrAdd (l := w) (m := trimR p) rfl rfl (by omega) rfl rfl, fprim (trimLeft_ev _) rfl rfl rfl, fStrLen rfl rfl rfl, fCmp (c := false) (a := (trimL (w ++ trimR p)).length) (b := 19) rfl rfl rfl (by simp only [intP]; rw [decide_eq_false (by omega)]) (by decide) rfl, fLoopOk me_lone (Nat.le_refl _) hl rfl, trivial⟩
theorem mtS_ok {nu : Nat → PV} (b : Bool) {n : Int} (h7 : nu 7 = nI n) (h8 : nu 8 = nI (-n)) (hn : -9223372036854775808 ≤ n ∧ n ≤ 0) (hb : b = false → n ≠ -9223372036854775808) : FactsOk PG nu (mtS b) := by
  cases b with
  | true => trivial
  | false =>
    have := hb rfl
    exact ⟨fCmp (c := false) (a := n) (b := -9223372036854775808) h7 rfl rfl (by rw [i64eqL, beq_eq_false_iff_ne.2 this]) (by decide) rfl, fNeg h7 h8 (by omega) (by show (nu 8).one = true; rw [h8]; rfl), trivial⟩
theorem meant_dec (b : Bool) (hlen : s.length ≤ 4000000000) (hs : s = w ++ 46 :: p) (hdw : w.all isDigit = true) (hdp : p.all isDigit = true) {n : Int} (hn : numZ (trimL (w ++ trimR p)) 0 = n) (hb : -1000000000000000 < n) (hk : n = 0 ∨ ((trimR p).length ≤ 6 ∧ ((trimR p).length = 0 ∨ n.tmod 10 ≠ 0))) :
    Ev PG f_sql_meant [.str s, .bool b] (.tup [vP (3, mtV b n, if n = 0 then 0 else ((trimR p).length : Nat), []), .bool true]) := by
  have hl : w.length + (p.length + 1) = s.length := by rw [hs]; simp
  have hdt : (trimR p).all isDigit = true := by
    unfold trimR
    rw [List.all_reverse]
    exact trimL_all (by rw [List.all_reverse]; exact hdp)
  have hd : (w ++ trimR p).all isDigit = true := by rw [List.all_append, hdw, hdt]; rfl
  have h0 := numZ_le (trimL (w ++ trimR p)) (n := 0) (trimL_all hd) (Int.le_refl 0)
  rw [hn] at h0
  have hf := mtF_ok b true hlen (by rw [hs]; exact cut_at p hdw) (by omega) (by omega) (pt := trimR p) rfl hd (by rw [hn]; omega)
  rw [hn] at hf
  have hs2 := mtS_ok (nu := nuL (mtNu s w p (trimR p) (w ++ trimR p) (trimL (w ++ trimR p)) n)) b rfl rfl ⟨by omega, h0⟩ (fun _ => by omega)
  by_cases hz : n = 0
  · subst hz
    rw [if_pos rfl]
    have hr := right_dec (n := mtV b 0) (k := 0) (by cases b <;> decide) (by cases b <;> decide) (by decide) (.inl rfl)
    have hk := okR_eq (bl_all (bl_all mt_k2 b) true)
    cases b with
    | true => exact Ev.facts (args := [.atom 0, .bool true]) prog_ok (nuL_okB rfl) hk (FactsOk.append hf (FactsOk.append hs2 ⟨fStrLen rfl rfl rfl, fCmp (c := true) (a := 0) (b := 0) rfl rfl rfl rfl (by decide) rfl, fprim hr rfl rfl rfl, trivial⟩)) rfl rfl
    | false => exact Ev.facts (args := [.atom 0, .bool false]) prog_ok (nuL_okB rfl) hk (FactsOk.append hf (FactsOk.append hs2 ⟨fStrLen rfl rfl rfl, fCmp (c := true) (a := -0) (b := 0) rfl rfl rfl rfl (by decide) rfl, fprim hr rfl rfl rfl, trivial⟩)) rfl rfl
  · rw [if_neg hz]
    obtain ⟨hk6, hk0⟩ := hk.resolve_left hz
    have hmod : (trimR p).length = 0 ∨ (mtV b n).tmod 10 ≠ 0 := by
      rcases hk0 with h | h
      · exact .inl h
      · refine .inr ?_
        cases b with
        | true => exact h
        | false => show (-n).tmod 10 ≠ 0; rw [Int.neg_tmod]; omega
    have hv : -1000000000000000 < mtV b n ∧ mtV b n < 1000000000000000 := by
      cases b with
      | true => show -1000000000000000 < n ∧ n < 1000000000000000; omega
      | false => show -1000000000000000 < -n ∧ -n < 1000000000000000; omega
    have hr := right_dec (n := mtV b n) (k := (trimR p).length) hv.1 hv.2 hk6 hmod
    have hk := okR_eq (bl_all (bl_all mt_k2 b) false)
    have hnz : ¬ mtV b n = 0 := by cases b with | true => exact hz | false => show ¬ -n = 0; omega
    cases b with
    | true => exact Ev.facts (args := [.atom 0, .bool true]) prog_ok (nuL_okB rfl) hk (FactsOk.append hf (FactsOk.append hs2 ⟨fStrLen rfl rfl rfl, fCmp (c := false) (a := n) (b := 0) rfl rfl rfl (by rw [i64eqL, beq_eq_false_iff_ne.2 hz]) (by decide) rfl, fprim hr rfl rfl rfl, trivial⟩)) rfl rfl
    | false => exact Ev.facts (args := [.atom 0, .bool false]) prog_ok (nuL_okB rfl) hk (FactsOk.append hf (FactsOk.append hs2 ⟨fStrLen rfl rfl rfl, fCmp (c := false) (a := -n) (b := 0) rfl rfl rfl (by rw [i64eqL, show (-n == 0) = false from beq_eq_false_iff_ne.2 hnz]) (by decide) rfl, fprim hr rfl rfl rfl, trivial⟩)) rfl rfl
end
end Go.Proofs.YtdlkibeljkapeaaGreatDoor.Den
namespace Go.Proofs.YtdlkibeljkapeaaGreatDoor.Den
open Go Go.RowKit
def dgF (k : Nat) : List Fact :=
  [.prim f_sql_past [.atom 0, .atom 1, .fn f_sql_digit [] []] (.atom 2), oI .add (.atom 2) (nI 1) (.atom 3), .op (.len ty_string) [.atom 0] (.atom 4)] ++
  match k with
  | 0 => [oI .lss (.atom 3) (.atom 4) (.bool false)]
  | 1 => [oI .lss (.atom 3) (.atom 4) (.bool true), .op (.index ty_string) [.atom 0, .atom 2] (.atom 5), bI .eql (.atom 5) 46 false]
  | _ => [oI .lss (.atom 3) (.atom 4) (.bool true), .op (.index ty_string) [.atom 0, .atom 2] (.atom 5), bI .eql (.atom 5) 46 true, .op (.index ty_string) [.atom 0, .atom 3] (.atom 6), .prim f_sql_digit [.atom 6] (.bool true), .prim f_sql_past [.atom 0, .atom 3, .fn f_sql_digit [] []] (.atom 7)]
def dgT (k : Nat) : PV := match k with | 0 | 1 => .atom 2 | _ => .atom 7
def dgE (k : Nat) : List Fact := [.op (.slice ty_string true true) [.atom 0, .atom 1, dgT k] (.atom 8), .prim f_sql_meant [.atom 8, .bool true] (.tup [.agg [.atom 10, .atom 11, .atom 12, .atom 13], .bool true])]
theorem dg_k : ((List.range 3).all fun k => okR (.tup [sgA (nI 3) (.atom 1) (.atom 8) (nI 0) (nI 0) (nI 0) (.str []) (nI 0), dgT k]) (callF PG (fOrc noOwn (dgF k ++ dgE k)) 10 f_sql_digits [.atom 0, sg0 (.atom 1)] [])) = true := by kernel_rfl
def dgNu (s : List UInt8) (i j : Nat) (c c2 : UInt8) (t : Nat) (w : List UInt8) (v : V4) : List PV := [.str s, nI i, nI j, nI (j + 1 : Nat), nI s.length, nB c, nB c2, nI t, .str w, nI 0, nI v.1, nI v.2.1, nI v.2.2.1, .str v.2.2.2]
def numSg (w : List UInt8) (a : Nat) : Sg := ⟨3, a, w, v0, 0⟩
theorem take_drop_of {s : List UInt8} {i : Nat} {w t : List UInt8} (h : s.drop i = w ++ t) : (s.take (i + w.length)).drop i = w := by
  rw [List.drop_take, Nat.add_sub_cancel_left, h]; simp
section
variable {s : List UInt8} {i : Nat} {w rest : List UInt8} {v : V4}
theorem digits_dec {d : UInt8} {p : List UInt8} (hs : s.length ≤ 9223372036854775805) (hi : i ≤ s.length) (h : s.drop i = w ++ (46 :: ((d :: p) ++ rest))) (hw : w.all isDigit = true) (hp' : (d :: p).all isDigit = true) (hr : headNot isDigit rest = true) (hm : Ev PG f_sql_meant [.str (w ++ 46 :: d :: p), .bool true] (.tup [vP v, .bool true])) :
    Ev PG f_sql_digits [.str s, sgP 0 i [] 0] (.tup [(numSg (w ++ 46 :: d :: p) i).pv, nI (i + w.length + 1 + (p.length + 1) : Nat)]) := by
  have hp := past_digit (s := s) (by omega) i hi
  rw [pastN_of h hw rfl] at hp
  have hl : i + w.length + (1 + (p.length + 1 + rest.length)) = s.length := by
    have := congrArg List.length h
    simp only [List.length_drop, List.length_append, List.length_cons] at this
    omega
  have e3 : IntKind.i64.wrap (((i + w.length : Nat) : Int) + 1) = ((i + w.length + 1 : Nat) : Int) := by rw [w6_id (by omega) (by omega)]; omega
  have h1 := drop_more h
  obtain ⟨_, hc1⟩ := drop_le h1
  have h2 : s.drop (i + w.length + 1) = (d :: p) ++ rest := drop_more (g := [46]) h1
  obtain ⟨_, hc2⟩ := drop_le (show s.drop (i + w.length + 1) = d :: (p ++ rest) from h2)
  have hp2 := past_digit (s := s) (by omega) (i + w.length + 1) (by omega)
  rw [pastN_of h2 hp' hr] at hp2
  have hdg := digit_ev d
  simp only [List.all_cons, Bool.and_eq_true] at hp'
  rw [hp'.1] at hdg
  have hsl : (s.take (i + w.length + 1 + (p.length + 1))).drop i = w ++ 46 :: d :: p := by
    have := take_drop_of (s := s) (i := i) (w := w ++ 46 :: d :: p) (t := rest) (by rw [h]; simp)
    rw [show i + w.length + 1 + (p.length + 1) = i + (w ++ 46 :: d :: p).length by simp; omega]
    exact this
  exact Ev.facts (nu := nuL (dgNu s i (i + w.length) 46 d (i + w.length + 1 + (p.length + 1)) (w ++ 46 :: d :: p) v)) (args := [.atom 0, sg0 (.atom 1)]) prog_ok (nuL_okB rfl) (okR_eq (List.all_eq_true.1 dg_k 2 (by decide)))
    (FactsOk.append ⟨fprim hp rfl rfl rfl, fInt (a := (i + w.length : Nat)) (b := 1) rfl rfl rfl (by simp only [intP]; rw [e3]) (by decide) rfl, fStrLen rfl rfl rfl, fCmp (c := true) (a := (i + w.length + 1 : Nat)) (b := s.length) rfl rfl rfl (by simp only [intP]; rw [decide_eq_true (by omega)]) (by decide) rfl, fStrIx rfl rfl hc1 rfl rfl,
      fU8 (a := (46 : Nat)) (b := (46 : Nat)) rfl rfl (u8eq (c := 46) (n := 46) (b := true) (by decide) rfl) rfl (by decide) rfl, fStrIx rfl rfl hc2 rfl rfl, fprim hdg rfl rfl rfl, fprim hp2 rfl rfl rfl, trivial⟩ ⟨fSlice (i := i) (j := i + w.length + 1 + (p.length + 1)) rfl rfl rfl (by omega) hsl rfl rfl, fprim hm rfl rfl rfl, trivial⟩) rfl rfl
end
end Go.Proofs.YtdlkibeljkapeaaGreatDoor.Den
namespace Go.Proofs.YtdlkibeljkapeaaGreatDoor.Den
open Go Go.RowKit
section
variable {s : List UInt8} {i : Nat} {g : List UInt8}
theorem digit_notBlank {c : UInt8} (h : isDigit c = true) : isBlank c = false := by
  simp only [isDigit, Bool.and_eq_true, decide_eq_true_eq] at h
  simp only [isBlank, Bool.or_eq_false_iff, beq_eq_false_iff_ne]
  refine ⟨fun e => ?_, fun e => ?_⟩ <;> subst e <;> simp at h
theorem rd_dec (hs : s.length ≤ 9223372036854775805) (hi : i ≤ s.length) {c d : UInt8} {w p rest : List UInt8} {v : V4} (h : s.drop i = g ++ ((c :: w) ++ (46 :: ((d :: p) ++ rest)))) (hg : g.all isBlank = true) (hw : (c :: w).all isDigit = true) (hp' : (d :: p).all isDigit = true) (hr : headNot isDigit rest = true) (hm : Ev PG f_sql_meant [.str ((c :: w) ++ 46 :: d :: p), .bool true] (.tup [vP v, .bool true])) :
    Rd s i (numSg ((c :: w) ++ 46 :: d :: p) (i + g.length)) (i + g.length + (w.length + 1) + 1 + (p.length + 1)) := by
  have hc : isDigit c = true := by simp only [List.all_cons, Bool.and_eq_true] at hw; exact hw.1
  have hp := pastN_of h hg (by show (!isBlank c) = true; rw [digit_notBlank hc]; rfl)
  have hd := drop_more h
  obtain ⟨hil, hcc⟩ := drop_le (show s.drop (i + g.length) = c :: (w ++ (46 :: ((d :: p) ++ rest))) from hd)
  have hdg := digits_dec hs (by omega) hd hw hp' hr hm
  refine ⟨?_, rfl, by show (3 : Int) ≠ 6; decide⟩
  exact read_ev (s := s) (by omega) i hi (c := c) (x := numSg ((c :: w) ++ 46 :: d :: p) (i + g.length)) (te := i + g.length + (w.length + 1) + 1 + (p.length + 1)) (by rw [hp]; exact hcc) (fun e => by subst e; cases hc) (.inr (.inl ⟨hc, by rw [hp]; exact hdg⟩))
end
def litP (j : Nat) : PV := .tup [.agg [.atom j, .atom (j + 1), .atom (j + 2), .atom (j + 3)], .bool true]
theorem co_k2 : okRS (litP 20) (okD 10 9) (callF PG (fOrc noOwn [oI .eql (.atom 1) (nI 4) (.bool false), oI .eql (.atom 1) (nI 3) (.bool true), .prim f_sql_meant [.atom 3, .bool false] (litP 20), nextT (okD 1 9) (okD 10 9)]) 20 f_sql_parser_constant [.box 0 0] (okD 1 9)) = true := by kernel_rfl
def coW (b1 b2 b3 : Bool) : List Fact := [oI .eql (.atom 1) (nI 4) (.bool false), oI .eql (.atom 1) (nI 3) (.bool false), isT (okD 1 9) "true" b1, isT (okD 1 9) "false" b2, isT (okD 1 9) "null" b3]
theorem co_km : okRS (litP 20) (okD 30 9) (callF PG (fOrc noOwn (coW false false false ++ [isT (okD 1 9) "-" true, .prim f_sql_read [.atom 0, .atom 8] (.tup [sgA (.atom 10) (.atom 11) (.atom 12) (.atom 13) (.atom 14) (.atom 15) (.atom 16) (nI 0), .atom 17]), oI .neq (.atom 10) (nI 3) (.bool false), nextT (okD 1 9) (okD 10 9), .prim f_sql_meant [.atom 12, .bool true] (litP 20), nextT (okD 10 9) (okD 30 9)])) 20 f_sql_parser_constant [.box 0 0] (okD 1 9)) = true := by kernel_rfl
def Const (s : List UInt8) (x : Sg) (tt dp : Nat) (v : V4) (z : Sg) (tz : Nat) : Prop := EvS PG f_sql_parser_constant [.box 0 0] (okL s x tt dp) (.tup [vP v, .bool true]) (okL s z tz dp)
def v4L (v : V4) : List PV := [nI v.1, nI v.2.1, nI v.2.2.1, .str v.2.2.2]
def coNu (s : List UInt8) (x : Sg) (tt dp : Nat) (y : Sg) (tu : Nat) (v : V4) (z : Sg) (tz : Nat) : List PV := PV.str s :: (sv x tt ++ (nI dp :: (sv y tu ++ ([nI 0, nI 0] ++ (v4L v ++ ([nI 0, nI 0, nI 0, nI 0, nI 0, nI 0] ++ sv z tz))))))
section
variable {s : List UInt8} {x y z : Sg} {tt tu tz : Nat} (dp : Nat) {v : V4}
theorem const_num (hk : x.k = 3) (hm : Ev PG f_sql_meant [.str x.w, .bool false] (.tup [vP v, .bool true])) (hy : Rd s tt y tu) : Const s x tt dp v y tu :=
  EvS.facts (nu := nuL (coNu s x tt dp y tu v y tu)) (args := [.box 0 0]) (s := okD 1 9) (s' := okD 10 9) (r := litP 20) prog_ok (nuL_okB rfl) (okRS_eq co_k2)
    ⟨fCmp (c := false) rfl rfl rfl (by rw [i64eq, hk]; rfl) (by decide) rfl, fCmp (c := true) rfl rfl rfl (by rw [i64eq, hk]; rfl) (by decide) rfl, fprim hm rfl rfl rfl, fst1 (next_ev x dp hy) rfl rfl rfl rfl rfl, trivial⟩ rfl rfl rfl
theorem coW_ok {nu : Nat → PV} {b1 b2 b3 : Bool} (h1 : nu 1 = nI x.k) (h0 : (okD 1 9).map (subRes nu) = okL s x tt dp) (hk4 : x.k ≠ 4) (hk3 : x.k ≠ 3) (e1 : isM x (kw "true") = b1) (e2 : isM x (kw "false") = b2) (e3 : isM x (kw "null") = b3) : FactsOk PG nu (coW b1 b2 b3) :=
  ⟨fCmp (c := false) h1 rfl rfl (by rw [i64eq, beq_eq_false_iff_ne.2 hk4]) (by decide) rfl, fCmp (c := false) h1 rfl rfl (by rw [i64eq, beq_eq_false_iff_ne.2 hk3]) (by decide) rfl, fIs h0 e1 rfl, fIs h0 e2 rfl, fIs h0 e3 rfl, trivial⟩
theorem const_neg (hx : isM x (kw "true") = false) (h2 : isM x (kw "false") = false) (h3 : isM x (kw "null") = false) (hk4 : x.k ≠ 4) (hk3 : x.k ≠ 3) (hm : isM x (kw "-") = true) (hy : Rd s tt y tu) (hyk : y.k = 3) (hv : Ev PG f_sql_meant [.str y.w, .bool true] (.tup [vP v, .bool true])) (hz : Rd s tu z tz) : Const s x tt dp v z tz := by
  have he := hy.ev
  have h0 := hy.e
  have hn1 := next_ev x dp hy
  have hn2 := next_ev y dp hz
  obtain ⟨k, a, w, v', e⟩ := y
  dsimp only at h0 hyk hv
  subst h0
  subst hyk
  exact EvS.facts (nu := nuL (coNu s x tt dp ⟨3, a, w, v', 0⟩ tu v z tz)) (args := [.box 0 0]) (s := okD 1 9) (s' := okD 30 9) (r := litP 20) prog_ok (nuL_okB rfl) (okRS_eq co_km)
    (FactsOk.append (coW_ok dp rfl rfl hk4 hk3 hx h2 h3) ⟨fIs rfl hm rfl, fprim he rfl rfl rfl, fCmp (c := false) rfl rfl rfl (by rw [i64ne]; rfl) (by decide) rfl, fst1 hn1 rfl rfl rfl rfl rfl, fprim hv rfl rfl rfl, fst1 hn2 rfl rfl rfl rfl rfl, trivial⟩) rfl rfl rfl
end
end Go.Proofs.YtdlkibeljkapeaaGreatDoor.Den
namespace Go.Proofs.YtdlkibeljkapeaaGreatDoor.Den
open Go Go.RowKit
def insB : List UInt8 := [105, 110, 115, 101, 114, 116, 32, 105, 110, 116, 111, 32, 116, 32, 118, 97, 108, 117, 101, 115, 32, 40]
def insF : List Fact := [rdT 0 1 0 "insert" 6, rdT 6 1 7 "into" 11, rdT 11 2 12 "t" 13, rdT 13 1 14 "values" 20, rdT 20 5 21 "(" 22,
  .prim f_sql_read [.atom 0, nI 22] (.tup [sgA (.atom 10) (.atom 11) (.atom 12) (.atom 13) (.atom 14) (.atom 15) (.atom 16) (nI 0), .atom 17]), oI .eql (.atom 10) (nI 6) (.bool false),
  .st f_sql_parser_constant [.box 0 0] selY (litP 20) (okP (.atom 0) (nI 5) (.atom 31) (.str (kw ")")) (nI 0) (nI 0) (nI 0) (.str []) (.atom 37) (nI 0)),
  .prim f_sql_read [.atom 0, .atom 37] (.tup [sgA (nI 0) (.atom 1) (.str []) (nI 0) (nI 0) (nI 0) (.str []) (nI 0), .atom 1])]
theorem ins_k : okR (.tup [stmtP (nI 4) tableZ (.str [116]) (.str []) (.str []) (.slice 4 [.agg [.atom 20, .atom 21, .atom 22, .atom 23]]) E7.zero.L E7.zero.L, nI 0, nI 0]) (callF PG (fOrc noOwn (selF0 ++ insF)) 30 f_sql_Parse [.atom 0] []) = true := by kernel_rfl
def E7.lit (v : V4) : E7 := ⟨nI 1, .str [], nI v.1, nI v.2.1, nI v.2.2.1, .str v.2.2.2, .nilslice⟩
section
variable {s rest : List UInt8}
theorem ins_w1 : wordSg (105 :: [110, 115, 101, 114, 116]) 0 = ⟨1, 0, kw "insert", v0, 0⟩ := by kernel_rfl
theorem ins_w2 : wordSg (105 :: [110, 116, 111]) 7 = ⟨1, 7, kw "into", v0, 0⟩ := by kernel_rfl
theorem ins_w3 : wordSg (116 :: []) 12 = ⟨2, 12, kw "t", v0, 0⟩ := by kernel_rfl
theorem ins_w4 : wordSg (118 :: [97, 108, 117, 101, 115]) 14 = ⟨1, 14, kw "values", v0, 0⟩ := by kernel_rfl
def isNu (s : List UInt8) (y : Sg) (tu : Nat) (v : V4) (a : Nat) (tz : Nat) : List PV :=
  [.str s, nI s.length, nI 0, nI 0, nI 0, nI 0, nI 0, nI 0, nI 0, nI 0] ++ (sv y tu ++ ([nI 0, nI 0] ++ (v4L v ++ ([nI 0, nI 0, nI 0, nI 0, nI 0, nI 0] ++ sv (markSg 3 a) tz))))
theorem parse_ins {y : Sg} {tu : Nat} {v : V4} {a tz : Nat} (hs : s = insB ++ rest) (hl : s.length ≤ 4000) (hy : Rd s 22 y tu) (h : Const s y tu 0 v (markSg 3 a) tz) (he : Rd s tz (endSg s.length) s.length) :
    Ev PG f_sql_Parse [.str s] (.tup [stmtP (nI 4) tableZ (.str [116]) (.str []) (.str []) (.slice 4 [vP v]) E7.zero.L E7.zero.L, nI 0, nI 0]) := by
  have hlen : 22 ≤ s.length := by rw [hs]; simp [insB]
  have hl' : s.length ≤ 9223372036854775805 := by omega
  have a1 := rd_word hl' (i := 0) (g := []) (by omega) (c := 105) (w := [110, 115, 101, 114, 116]) (rest := insB.drop 6 ++ rest) (by rw [hs]; rfl) rfl rfl rfl rfl (fun h => absurd h (by decide)) (by decide)
  have a2 := rd_word hl' (i := 6) (g := [32]) (by omega) (c := 105) (w := [110, 116, 111]) (rest := insB.drop 11 ++ rest) (by rw [hs]; rfl) rfl rfl rfl rfl (fun h => absurd h (by decide)) (by decide)
  have a3 := rd_word hl' (i := 11) (g := [32]) (by omega) (c := 116) (w := []) (rest := insB.drop 13 ++ rest) (by rw [hs]; rfl) rfl rfl rfl rfl (fun h => absurd h (by decide)) (by decide)
  have a4 := rd_word hl' (i := 13) (g := [32]) (by omega) (c := 118) (w := [97, 108, 117, 101, 115]) (rest := insB.drop 20 ++ rest) (by rw [hs]; rfl) rfl rfl rfl rfl (fun h => absurd h (by decide)) (by decide)
  have a5 := rd_mark' hl' (i := 20) (g := [32]) (by omega) 2 (by decide) (by decide) (rest := rest) (by rw [hs]; rfl) rfl
  have b1 := a1.ev
  have b2 := a2.ev
  have b3 := a3.ev
  have b4 := a4.ev
  simp only [List.length_nil, List.length_cons, Nat.zero_add, Nat.reduceAdd] at b1 b2 b3 b4
  rw [ins_w1] at b1
  rw [ins_w2] at b2
  rw [ins_w3] at b3
  rw [ins_w4] at b4
  have hye := hy.ev
  have h0 := hy.e
  have hyk := hy.k
  obtain ⟨k, ya, w, yv, e⟩ := y
  dsimp only at h0 hyk
  subst h0
  exact Ev.facts (nu := nuL (isNu s ⟨k, ya, w, yv, 0⟩ tu v a tz)) (args := [.atom 0]) prog_ok (nuL_okB rfl) (okR_eq ins_k) (FactsOk.append (sel0_ok (s := s) rfl rfl hl)
    ⟨fprim b1 rfl rfl rfl, fprim b2 rfl rfl rfl, fprim b3 rfl rfl rfl, fprim b4 rfl rfl rfl, fprim a5.ev rfl rfl rfl, fprim hye rfl rfl rfl, fCmp (c := false) rfl rfl rfl (by rw [i64eq, beq_eq_false_iff_ne.2 hyk]) (by decide) rfl,
      fst1 h rfl rfl rfl rfl rfl, fprim he.ev rfl rfl rfl, trivial⟩) rfl rfl
end
end Go.Proofs.YtdlkibeljkapeaaGreatDoor.Den
