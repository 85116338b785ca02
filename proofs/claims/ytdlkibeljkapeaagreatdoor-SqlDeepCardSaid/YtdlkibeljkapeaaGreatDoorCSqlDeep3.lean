-- Written by drive.py and pack.py (programs of this proof's own) through the kit's printer; not trusted: Lean checks it.
import Derived.Shelf.Strings.Builder1
import Derived.Shelf.Strings.Builder2
import Derived.Shelf.Small.Utf8
import Derived.Shelf.Small.Strs
import Derived.Shelf.Utf8.RuneCount
import Derived.Shelf.Strconv.Itoa0
import Derived.Shelf.Strconv.Itoa1
import Derived.Shelf.LaysM
import Derived.Shelf.Strconv.Itoa2
import Derived.Shelf.Strconv.Itoa3
import Derived.Shelf.Strings.Search1
import Derived.Shelf.Strings.Search2
import Derived.Shelf.Strings.Search3
import Derived.Shelf.Strings.Cut
import Derived.Shelf.Strings.Count
import Derived.Shelf.Strings.Shaped
import Derived.Shelf.Strings.Split
import Derived.Shelf.Strings.Fields
import Derived.Shelf.Strings.Replace
import Derived.Shelf.Strings.SplitShaped
import Derived.Shelf.Unicode.Latin
import Derived.Shelf.Unicode.Decode
import Derived.Shelf.Strings.Runes
import Derived.Shelf.Strings.RuneCount
import Derived.Shelf.Strings.AsciiSet
import Derived.Shelf.Bits.Mul64
import Derived.Shelf.Unicode.DecodeSlow
import Derived.Shelf.Unicode.DecodeAny
import Derived.Shelf.Unicode.Is16White
import Derived.Shelf.Unicode.IsSpaceAny
import Derived.Shelf.Unicode.DecodeLast
import Derived.Shelf.Unicode.Is16Any
import Derived.Shelf.Unicode.Is32Any
import Derived.Shelf.Unicode.ExclAny
import Derived.Test.YtdlkibeljkapeaaGreatDoorProg
import Derived.Test.YtdlkibeljkapeaaGreatDoorCSqlDeep2
namespace Go.Proofs
open Go.Shelf
def Tryz.laysM171_ren : Go.Shelf.Ren := ⟨fun | 171 => 50 | 243 => 75 | 246 => 90 | 283 => 115 | 284 => 116 | 285 => 117 | 286 => 118 | 129 => 144 | 317 => 143 | 318 => 145 | 319 => 146 | 320 => 147 | 337 => 168 | 338 => 169 | n => n, fun | 3 => 3 | 9 => 9 | 2 => 2 | 4 => 4 | 171 => 142 | 0 => 0 | 53 => 143 | 37 => 62 | 5 => 5 | 173 => 146 | 212 => 167 | 51 => 148 | 20 => 20 | 213 => 168 | 46 => 95 | 232 => 196 | 233 => 197 | n => n, fun | 17 => 0 | 18 => 6 | 19 => 7 | n => n⟩
theorem Tryz.laysM171 : Go.Proofs.LaysM.n171 Tryz.prog Tryz.laysM171_ren := {
  mixed := by kernel_rfl
  f129 := Tryz.func144.trans (congrArg some (by kernel_rfl))
  f171 := Tryz.func50.trans (congrArg some (by kernel_rfl))
  f243 := Tryz.func75.trans (congrArg some (by kernel_rfl))
  f246 := Tryz.func90.trans (congrArg some (by kernel_rfl))
  f283 := Tryz.func115.trans (congrArg some (by kernel_rfl))
  f284 := Tryz.func116.trans (congrArg some (by kernel_rfl))
  f285 := Tryz.func117.trans (congrArg some (by kernel_rfl))
  f286 := Tryz.func118.trans (congrArg some (by kernel_rfl))
  f317 := Tryz.func143.trans (congrArg some (by kernel_rfl))
  f318 := Tryz.func145.trans (congrArg some (by kernel_rfl))
  f319 := Tryz.func146.trans (congrArg some (by kernel_rfl))
  f320 := Tryz.func147.trans (congrArg some (by kernel_rfl))
  f337 := Tryz.func168.trans (congrArg some (by kernel_rfl))
  f338 := Tryz.func169.trans (congrArg some (by kernel_rfl))
  t0 := Tryz.underlying0
  a0 := Tryz.isAgg0
  z0 := Tryz.sizeOf0
  v0 := Tryz.zeroValue0
  t2 := Tryz.underlying2
  a2 := Tryz.isAgg2
  z2 := Tryz.sizeOf2
  v2 := Tryz.zeroValue2
  t3 := Tryz.underlying3
  a3 := Tryz.isAgg3
  z3 := Tryz.sizeOf3
  v3 := Tryz.zeroValue3
  t4 := Tryz.underlying4
  a4 := Tryz.isAgg4
  z4 := Tryz.sizeOf4
  v4 := Tryz.zeroValue4
  t5 := Tryz.underlying5
  a5 := Tryz.isAgg5
  z5 := Tryz.sizeOf5
  v5 := Tryz.zeroValue5
  t9 := Tryz.underlying9
  a9 := Tryz.isAgg9
  z9 := Tryz.sizeOf9
  v9 := Tryz.zeroValue9
  t20 := Tryz.underlying20
  a20 := Tryz.isAgg20
  z20 := Tryz.sizeOf20
  v20 := Tryz.zeroValue20
  t37 := Tryz.underlying62
  a37 := Tryz.isAgg62
  z37 := Tryz.sizeOf62
  v37 := Tryz.zeroValue62
  t46 := Tryz.underlying95
  a46 := Tryz.isAgg95
  z46 := Tryz.sizeOf95
  v46 := Tryz.zeroValue95
  t51 := Tryz.underlying148
  a51 := Tryz.isAgg148
  z51 := Tryz.sizeOf148
  v51 := Tryz.zeroValue148
  t53 := Tryz.underlying143
  a53 := Tryz.isAgg143
  z53 := Tryz.sizeOf143
  v53 := Tryz.zeroValue143
  t171 := Tryz.underlying142
  a171 := Tryz.isAgg142
  z171 := Tryz.sizeOf142
  v171 := Tryz.zeroValue142
  t173 := Tryz.underlying146
  a173 := Tryz.isAgg146
  z173 := Tryz.sizeOf146
  v173 := Tryz.zeroValue146
  t212 := Tryz.underlying167
  a212 := Tryz.isAgg167
  z212 := Tryz.sizeOf167
  v212 := Tryz.zeroValue167
  t213 := Tryz.underlying168
  a213 := Tryz.isAgg168
  z213 := Tryz.sizeOf168
  t232 := Tryz.underlying196
  a232 := Tryz.isAgg196
  z232 := Tryz.sizeOf196
  v232 := Tryz.zeroValue196
  t233 := Tryz.underlying197
  a233 := Tryz.isAgg197
  z233 := Tryz.sizeOf197
  v233 := Tryz.zeroValue197
  g17 := by kernel_rfl
  g18 := by kernel_rfl
  g19 := by kernel_rfl
  i0 := by kernel_rfl
  i2 := by kernel_rfl
  i3 := by kernel_rfl
  i4 := by kernel_rfl
  i5 := by kernel_rfl
  i9 := by kernel_rfl
  i20 := by kernel_rfl
  i37 := by kernel_rfl
  i46 := by kernel_rfl
  i51 := by kernel_rfl
  i53 := by kernel_rfl
  i171 := by kernel_rfl
  i173 := by kernel_rfl
  i212 := by kernel_rfl
  i232 := by kernel_rfl
  i233 := by kernel_rfl
  m17 := by kernel_rfl
  m18 := by kernel_rfl
  m19 := by kernel_rfl }
open Go.RowKit Go.Sort Go.Lib in
theorem Tryz.strconv_Itoa (n : Int) (h0 : -9223372036854775808 ≤ n) (h1 : n ≤ 9223372036854775807) (w : World) (htab : Lib.TabIs Tryz.prog w "internal/strconv.uint64pow10" .u64 Lib.pow10Tab) :
    Calls Tryz.prog 50 #[.int .i64 n] w fun e w' => e = .returned (.string ⟨(Lib.itoa n).toArray⟩) ∧ ∃ k os, w' = grow (w.drewN k) os := Any.strconv_Itoa Tryz.laysM171 n h0 h1 w htab
def Tryz.lays145_ren : Go.Shelf.Ren := ⟨fun | 145 => 139 | 220 => 159 | 219 => 125 | 217 => 150 | 225 => 151 | 224 => 152 | 267 => 153 | 266 => 170 | 314 => 171 | n => n, fun | 9 => 9 | 4 => 4 | 59 => 163 | 3 => 3 | 5 => 5 | 46 => 95 | 146 => 149 | 51 => 148 | n => n, fun | 1 => 1 | n => n⟩
theorem Tryz.lays145 : Go.Proofs.Lays.n145 Tryz.prog Tryz.lays145_ren := {
  mixed := by kernel_rfl
  f145 := Tryz.func139.trans (congrArg some (by kernel_rfl))
  f217 := Tryz.func150.trans (congrArg some (by kernel_rfl))
  f219 := Tryz.func125.trans (congrArg some (by kernel_rfl))
  f220 := Tryz.func159.trans (congrArg some (by kernel_rfl))
  f224 := Tryz.func152.trans (congrArg some (by kernel_rfl))
  f225 := Tryz.func151.trans (congrArg some (by kernel_rfl))
  f266 := Tryz.func170.trans (congrArg some (by kernel_rfl))
  f267 := Tryz.func153.trans (congrArg some (by kernel_rfl))
  f314 := Tryz.func171.trans (congrArg some (by kernel_rfl))
  t3 := Tryz.underlying3
  a3 := Tryz.isAgg3
  z3 := Tryz.sizeOf3
  v3 := Tryz.zeroValue3
  t4 := Tryz.underlying4
  a4 := Tryz.isAgg4
  z4 := Tryz.sizeOf4
  v4 := Tryz.zeroValue4
  t5 := Tryz.underlying5
  a5 := Tryz.isAgg5
  z5 := Tryz.sizeOf5
  v5 := Tryz.zeroValue5
  t9 := Tryz.underlying9
  a9 := Tryz.isAgg9
  z9 := Tryz.sizeOf9
  v9 := Tryz.zeroValue9
  t46 := Tryz.underlying95
  a46 := Tryz.isAgg95
  z46 := Tryz.sizeOf95
  v46 := Tryz.zeroValue95
  t51 := Tryz.underlying148
  a51 := Tryz.isAgg148
  z51 := Tryz.sizeOf148
  v51 := Tryz.zeroValue148
  t59 := Tryz.underlying163
  a59 := Tryz.isAgg163
  z59 := Tryz.sizeOf163
  v59 := Tryz.zeroValue163
  t146 := Tryz.underlying149
  a146 := Tryz.isAgg149
  z146 := Tryz.sizeOf149
  v146 := Tryz.zeroValue149
  g1 := by kernel_rfl }
open Go.RowKit Go.Lib in
theorem Tryz.strings_Cut (s sep : ByteArray) (m : Int) (w : World) (hs : s.size < 4294967281) (hm : w.cell? ⟨1, 0, none⟩ = some (.int .i64 m)) :
    Calls Tryz.prog 139 #[.string s, .string sep] w fun e w' => e = .returned (.tuple #[.string ⟨(Lib.cut s.data.toList sep.data.toList).1.toArray⟩, .string ⟨(Lib.cut s.data.toList sep.data.toList).2.1.toArray⟩, .bool (Lib.cut s.data.toList sep.data.toList).2.2]) ∧ ∃ n, w' = w.drewN n := Any.strings_Cut Tryz.lays145 s sep m w hs hm
end Go.Proofs
namespace Go.Proofs.YtdlkibeljkapeaaGreatDoor.Den
open Go Go.RowKit
theorem fn_of {P : Program} (g : FuncId) (h : (match P.funcs[g]? with | some fn => !(fn.name == "runtime.NumGoroutine") && fn.body.isSome | none => false) = true) : ∃ fn, P.funcs[g]? = some fn ∧ (fn.name == "runtime.NumGoroutine") = false ∧ fn.body.isSome = true := by
  split at h
  · rename_i fn hf
    simp only [Bool.and_eq_true, Bool.not_eq_true'] at h
    exact ⟨fn, hf, h.1, h.2⟩
  · cases h
theorem below_drewN (w : World) (n : Nat) : Below w.heap.size w (w.drewN n) := ⟨rfl, rfl, rfl, Nat.le_refl _, fun _ _ => rfl⟩
theorem below_grow (w : World) (k : Nat) (os : Array Obj) : Below w.heap.size w (Sort.grow (w.drewN k) os) := by
  refine ⟨rfl, rfl, rfl, by show w.heap.size ≤ (w.heap ++ os).size; rw [Array.size_append]; omega, fun i hi => ?_⟩
  have h : i < (w.drewN k).heap.size := hi
  show ((w.drewN k).heap ++ os)[i]? = _
  rw [Array.getElem?_append_left h]; rfl
theorem cell_maxLen {X : Map} {w : World} (h : X.Ok w) : ∃ m, w.cell? ⟨1, 0, none⟩ = some (.int .i64 m) := by
  obtain ⟨arr, e, fr, h1, _, _, h4⟩ := h.2 1 rfl
  obtain ⟨m, rfl⟩ := h4
  exact ⟨m, by simp [World.cell?, h1]⟩
theorem tab_pow10 {X : Map} {w : World} (h : X.Ok w) : Lib.TabIs PG w "internal/strconv.uint64pow10" .u64 Lib.pow10Tab := by
  obtain ⟨arr, e, fr, h1, _, _, h4⟩ := h.2 0 rfl
  have h4' : arr = (Lib.pow10Tab.map fun z => Value.int .u64 z).toArray := h4
  have hg : PG.globalNamed "internal/strconv.uint64pow10" = some 0 := by kernel_rfl
  unfold Lib.TabIs World.var?
  rw [hg]
  simp only [Option.bind_some, h1, h4']
abbrev nI (n : Int) : PV := .int .i64 n
theorem R_tup3 (X : Map) (a b : List UInt8) (c : Bool) : R X (.tup [.str a, .str b, .bool c]) (.tuple #[.string ⟨a.toArray⟩, .string ⟨b.toArray⟩, .bool c]) := by
  refine .tup _ _ rfl fun j p hp => ?_
  match j, hp with
  | 0, hp => cases hp; exact .str ⟨a.toArray⟩
  | 1, hp => cases hp; exact .str ⟨b.toArray⟩
  | 2, hp => cases hp; exact .bool c
theorem cut_ev (s sep : List UInt8) (hs : s.length < 4294967281) : Ev PG f_strings_Cut [.str s, .str sep] (.tup [.str (Lib.cut s sep).1, .str (Lib.cut s sep).2.1, .bool (Lib.cut s sep).2.2]) := by
  refine Ev.ofCalls (fn_of _ (by kernel_rfl)) fun X w vs a1 a2 a3 => ?_
  obtain ⟨u, v, rfl, r1, r2⟩ := vs_two a1 a2
  rw [r1.str_inv, r2.str_inv]
  obtain ⟨m, hm⟩ := cell_maxLen a3
  refine (Go.Proofs.Tryz.strings_Cut ⟨s.toArray⟩ ⟨sep.toArray⟩ m w (by show s.toArray.size < _; simpa using hs) hm).mono ?_
  rintro e w' ⟨he, n, rfl⟩
  exact ⟨⟨_, he, R_tup3 X _ _ _⟩, below_drewN w n⟩
theorem itoa_ev (n : Int) (h : -9223372036854775808 ≤ n ∧ n ≤ 9223372036854775807) : Ev PG f_strconv_Itoa [nI n] (.str (Lib.itoa n)) := by
  refine Ev.ofCalls (fn_of _ (by kernel_rfl)) fun X w vs a1 a2 a3 => ?_
  obtain ⟨u, rfl, r1⟩ := vs_one a1 a2
  rw [r1.int_inv]
  refine (Go.Proofs.Tryz.strconv_Itoa n h.1 h.2 w (tab_pow10 a3)).mono ?_
  rintro e w' ⟨he, k, os, rfl⟩
  exact ⟨⟨_, he, .str ⟨(Lib.itoa n).toArray⟩⟩, below_grow w k os⟩
end Go.Proofs.YtdlkibeljkapeaaGreatDoor.Den
namespace Go.Proofs.YtdlkibeljkapeaaGreatDoor.Den
open Go Go.RowKit
def cutF (s : List UInt8) : Fact := .prim f_strings_Cut [.str s, .str [46]] (.tup [.str (Lib.cut s [46]).1, .str (Lib.cut s [46]).2.1, .bool (Lib.cut s [46]).2.2])
def itoaF (p : Int × List UInt8) : Fact := .prim f_strconv_Itoa [nI p.1] (.str p.2)
end Go.Proofs.YtdlkibeljkapeaaGreatDoor.Den
namespace Go.Proofs.YtdlkibeljkapeaaGreatDoor.Den
open Go Go.RowKit
abbrev oI (op : BinOp) (x y r : PV) : Fact := .op (.bin op ty_int) [x, y] r
abbrev nB (c : UInt8) : PV := .int .u8 c.toNat
theorem fprim {nu : Nat → PV} {g : FuncId} {args : List PV} {r : PV} {a : List PV} {b : PV} (h : Ev PG g a b) (h1 : args.map (subD nu) = a) (h2 : subD nu r = b) (h3 : oneB nu r = true) : FactOk PG nu (.prim g args r) := ⟨by rw [h1, h2]; exact h, h3⟩
theorem u_string : PG.underlying ty_string = some .string := by kernel_rfl
theorem fStrLen {nu : Nat → PV} {x r : PV} {s : List UInt8} (h1 : subD nu x = .str s) (h2 : subD nu r = nI s.length) (h3 : oneB nu r = true) : FactOk PG nu (.op (.len ty_string) [x] r) := by
  refine ⟨?_, h3⟩
  show lenP PG ty_string (subD nu x) = some (subD nu r)
  rw [h1, h2]
  unfold lenP
  rw [u_string]
theorem fStrIx {nu : Nat → PV} {x i r : PV} {s : List UInt8} {n : Nat} {c : UInt8} (h1 : subD nu x = .str s) (h2 : subD nu i = nI n) (h3 : s[n]? = some c) (h4 : subD nu r = nB c) (h5 : oneB nu r = true) : FactOk PG nu (.op (.index ty_string) [x, i] r) := by
  refine ⟨?_, h5⟩
  show indexP PG ty_string (subD nu x) (subD nu i) = some (subD nu r)
  rw [h1, h2, h4]
  unfold indexP
  rw [u_string]
  show (if (0 : Int) ≤ (n : Int) then (match s[((n : Nat) : Int).toNat]? with | some b => some (PV.int .u8 b.toNat) | none => none) else none) = _
  rw [if_pos (by omega), Int.toNat_natCast, h3]
theorem w6_id {n : Int} (h0 : -9223372036854775808 ≤ n) (h1 : n ≤ 9223372036854775807) : IntKind.i64.wrap n = n := Go.IntWalk.i64_in _ ⟨h0, h1⟩
def paT (g : FuncId) : List (Nat × PV) := [(0, .atom 0), (1, .atom 1), (2, .fn g [] [])]
def paA (b : Bool) : List Fact := [.op (.len ty_string) [.atom 0] (.atom 2), oI .lss (.atom 1) (.atom 2) (.bool b)]
def paB (g : FuncId) (q : Bool) : List Fact := paA true ++ [.op (.index ty_string) [.atom 0, .atom 1] (.atom 3), .prim g [.atom 3] (.bool q), oI .add (.atom 1) (nI 1) (.atom 4)]
noncomputable abbrev paRun (g : FuncId) (fs : List Fact) : Option (Ex × St) := execN PG (fOrc noOwn fs) (callF PG (fOrc noOwn fs) 5) ((fOrc noOwn fs).loop f_sql_past) 5 3 (loopAt PG f_sql_past 1) ⟨paT g, []⟩
theorem pa_lone : loneB PG f_sql_past 1 = true := by kernel_rfl
def kindsL : List FuncId := [f_sql_blank, f_sql_inner, f_sql_digit, f_sql_hex]
theorem pa_a : (kindsL.all fun g => runsB (paRun g (paA false)) (.exit 0) [(1, .atom 1)] []) = true := by kernel_rfl
theorem pa_b : (kindsL.all fun g => runsB (paRun g (paB g false)) (.exit 0) [(1, .atom 1)] []) = true := by kernel_rfl
theorem pa_c : (kindsL.all fun g => runsB (paRun g (paB g true)) .normal [(0, .atom 0), (1, .atom 4), (2, .fn g [] [])] []) = true := by kernel_rfl
theorem pa_f : (kindsL.all fun g => okR (.atom 2) (callF PG (fOrc noOwn [.loop f_sql_past 1 [(0, .atom 0), (1, .atom 1), (2, .fn g [] [])] [] (.exit 0) [(1, .atom 2)] []]) 5 f_sql_past [.atom 0, .atom 1, .fn g [] []] [])) = true := by kernel_rfl
set_option maxRecDepth 20000 in
theorem pa_loop {g : FuncId} (hg : g ∈ kindsL) {p : UInt8 → Bool} (hp : ∀ c, Ev PG g [nB c] (.bool (p c))) {s : List UInt8} (hs : s.length ≤ 9223372036854775806) : ∀ (l : List UInt8) (i : Nat), s.drop i = l → i ≤ s.length →
    RunsR PG (ntOf PG f_sql_past) (loopAt PG f_sql_past 1) [(0, .str s), (1, nI i), (2, .fn g [] [])] [] (.exit 0) [(1, nI (i + (l.takeWhile p).length : Nat))] [] := by
  intro l
  induction l with
  | nil =>
    intro i hi h1
    have hlen : s.length ≤ i := by
      have := congrArg List.length hi
      simp at this; omega
    have hge : ¬ ((i : Nat) : Int) < (s.length : Int) := by omega
    refine RunsR.leave ?_ (fun h => by cases h)
    exact RunsP.chk (nu := nuL [.str s, nI i, nI s.length]) prog_ok (nuL_okB rfl) (T := paT g) (s := []) (T' := [(1, .atom 1)]) (s' := []) pa_lone (List.all_eq_true.1 pa_a g hg)
      ⟨fStrLen rfl rfl rfl, fCmp (c := false) (a := i) (b := s.length) rfl rfl rfl (by simp only [intP]; rw [decide_eq_false hge]) (by decide) rfl, trivial⟩ rfl rfl rfl
  | cons c l ih =>
    intro i hi h1
    have hx : s[i]? = some c := by
      have := congrArg (fun z => z[0]?) hi
      simpa using this
    have hil : i < s.length := (List.getElem?_eq_some_iff.1 hx).1
    have hl : s.drop (i + 1) = l := by
      have := congrArg List.tail hi
      simpa using this
    have hlt : ((i : Nat) : Int) < (s.length : Int) := by omega
    have e4 : IntKind.i64.wrap ((i : Int) + 1) = ((i + 1 : Nat) : Int) := by rw [w6_id (by omega) (by omega)]; omega
    have hf : ∀ q, p c = q → FactsOk PG (nuL [.str s, nI i, nI s.length, nB c, nI (i + 1 : Nat)]) (paB g q) := fun q hq => by
      have hpc := hp c
      rw [hq] at hpc
      unfold paB paA
      exact ⟨fStrLen rfl rfl rfl, fCmp (c := true) (a := i) (b := s.length) rfl rfl rfl (by simp only [intP]; rw [decide_eq_true hlt]) (by decide) rfl, fStrIx rfl rfl hx rfl rfl, fprim hpc rfl rfl rfl, fInt (a := i) (b := 1) rfl rfl rfl (by simp only [intP]; rw [e4]) (by decide) rfl, trivial⟩
    cases hq : p c with
    | false =>
      have e : ((c :: l).takeWhile p).length = 0 := by simp [hq]
      rw [e]
      refine RunsR.leave ?_ (fun h => by cases h)
      exact RunsP.chk (nu := nuL [.str s, nI i, nI s.length, nB c, nI (i + 1 : Nat)]) prog_ok (nuL_okB rfl) (T := paT g) (s := []) (T' := [(1, .atom 1)]) (s' := []) pa_lone (List.all_eq_true.1 pa_b g hg) (hf false hq) rfl rfl rfl
    | true =>
      have e : i + ((c :: l).takeWhile p).length = i + 1 + (l.takeWhile p).length := by simp [hq]; omega
      rw [e]
      refine RunsR.round ?_ (ih (i + 1) hl (by omega))
      exact RunsP.chk (nu := nuL [.str s, nI i, nI s.length, nB c, nI (i + 1 : Nat)]) prog_ok (nuL_okB rfl) (T := paT g) (s := []) (T' := [(0, .atom 0), (1, .atom 4), (2, .fn g [] [])]) (s' := []) pa_lone (List.all_eq_true.1 pa_c g hg) (hf true hq) rfl rfl rfl
theorem past_ev {g : FuncId} (hg : g ∈ kindsL) {p : UInt8 → Bool} (hp : ∀ c, Ev PG g [nB c] (.bool (p c))) {s : List UInt8} (hs : s.length ≤ 9223372036854775806) (i : Nat) (hi : i ≤ s.length) :
    Ev PG f_sql_past [.str s, nI i, .fn g [] []] (nI (i + ((s.drop i).takeWhile p).length : Nat)) :=
  Ev.facts (nu := nuL [.str s, nI i, nI (i + ((s.drop i).takeWhile p).length : Nat)]) prog_ok (nuL_okB rfl) (okR_eq (List.all_eq_true.1 pa_f g hg)) ⟨fLoopOk pa_lone (Nat.le_refl _) (pa_loop hg hp hs (s.drop i) i rfl hi) rfl, trivial⟩ rfl rfl
end Go.Proofs.YtdlkibeljkapeaaGreatDoor.Den
namespace Go.Proofs.YtdlkibeljkapeaaGreatDoor.Den
open Go Go.RowKit
def isBlank (c : UInt8) : Bool := c == 32 || c == 10
def isSmall (c : UInt8) : Bool := decide (97 ≤ c.toNat) && decide (c.toNat ≤ 122)
def isDigit (c : UInt8) : Bool := decide (48 ≤ c.toNat) && decide (c.toNat ≤ 57)
def isInner (c : UInt8) : Bool := isSmall c || (isDigit c || c == 95)
noncomputable def byteB (f : FuncId) (p : UInt8 → Bool) : Bool := (List.range 256).all fun c => okR (.bool (p (UInt8.ofNat c))) (callF PG noOrc 5 f [.int .u8 (c : Nat)] [])
theorem byte_ev {f : FuncId} {p : UInt8 → Bool} (h : byteB f p = true) (c : UInt8) : Ev PG f [nB c] (.bool (p c)) := by
  have hk := List.all_eq_true.1 h c.toNat (by rw [List.mem_range]; exact c.toNat_lt)
  have e : UInt8.ofNat c.toNat = c := by simp
  rw [e] at hk
  exact Ev.ofD (nu := nuL []) (args := [nB c]) prog_ok (nuL_okB rfl) (noOrc_ok PG _) (okR_eq hk) (fun p hp => by simp at hp; subst hp; exact ⟨rfl, rfl⟩) rfl rfl
theorem blank_ev : ∀ c, Ev PG f_sql_blank [nB c] (.bool (isBlank c)) := byte_ev (by kernel_rfl)
theorem small_ev : ∀ c, Ev PG f_sql_small [nB c] (.bool (isSmall c)) := byte_ev (by kernel_rfl)
theorem digit_ev : ∀ c, Ev PG f_sql_digit [nB c] (.bool (isDigit c)) := byte_ev (by kernel_rfl)
theorem inner_ev : ∀ c, Ev PG f_sql_inner [nB c] (.bool (isInner c)) := byte_ev (by kernel_rfl)
def pastN (p : UInt8 → Bool) (s : List UInt8) (i : Nat) : Nat := i + ((s.drop i).takeWhile p).length
theorem past_blank {s : List UInt8} (hs : s.length ≤ 9223372036854775806) (i : Nat) (hi : i ≤ s.length) : Ev PG f_sql_past [.str s, nI i, .fn f_sql_blank [] []] (nI (pastN isBlank s i)) := past_ev (by simp [kindsL]) blank_ev hs i hi
theorem past_inner {s : List UInt8} (hs : s.length ≤ 9223372036854775806) (i : Nat) (hi : i ≤ s.length) : Ev PG f_sql_past [.str s, nI i, .fn f_sql_inner [] []] (nI (pastN isInner s i)) := past_ev (by simp [kindsL]) inner_ev hs i hi
theorem same_str (l m : List UInt8) : strP .eql l m = some (.bool (l == m)) := rfl
theorem fStrEq {nu : Nat → PV} {op : BinOp} {x y r : PV} {l m : List UInt8} {p : PV} (h1 : subD nu x = .str l) (h2 : subD nu y = .str m) (h : strP op l m = some p) (h3 : subD nu r = p) (h4 : oneB nu r = true) : FactOk PG nu (.op (.bin op ty_string) [x, y] r) := by
  refine ⟨?_, h4⟩
  show binP PG op ty_string (subD nu x) (subD nu y) = some (subD nu r)
  rw [h1, h2, h3, ← h]
  cases op <;> rfl
def coF (i : Nat) (b : Bool) : List Fact := (List.range (if b then i + 1 else i)).map fun j => .op (.bin .eql ty_string) [.atom 0, .str (keysL.getD j [])] (.bool (decide (j = i)))
def coF' (i : Nat) (b : Bool) : List Fact := (List.range (if b then i + 1 else i)).map fun j => .op (.bin .eql ty_string) [.str (keysL.getD j []), .atom 0] (.bool (decide (j = i)))
theorem co_k : ((List.range 33).all fun i => okR (.bool true) (callF PG (fOrc noOwn (coF i true ++ coF' i true)) 40 f_slices_Contains_sl_string_string [strsP keysL, .atom 0] [])) = true := by kernel_rfl
theorem co_k0 : okR (.bool false) (callF PG (fOrc noOwn (coF 33 false ++ coF' 33 false)) 40 f_slices_Contains_sl_string_string [strsP keysL, .atom 0] []) = true := by kernel_rfl
end Go.Proofs.YtdlkibeljkapeaaGreatDoor.Den
namespace Go.Proofs.YtdlkibeljkapeaaGreatDoor.Den
open Go Go.RowKit
theorem keysL_len : keysL.length = 33 := by decide +kernel
theorem coF_ok {w : List UInt8} {i : Nat} {b : Bool} (h : ∀ j, j < (if b then i + 1 else i) → (keysL.getD j [] == w) = decide (j = i)) : FactsOk PG (nuL [.str w]) (coF i b ++ coF' i b) := by
  refine FactsOk.append (FactsOk.of fun f hf => ?_) (FactsOk.of fun f hf => ?_)
  · obtain ⟨j, hj, rfl⟩ := List.mem_map.1 hf
    rw [List.mem_range] at hj
    have := h j hj
    refine fStrEq (l := w) (m := keysL.getD j []) rfl rfl (same_str _ _) ?_ rfl
    show PV.bool _ = _
    rw [← this]
    congr 1
    exact Bool.eq_iff_iff.2 (by simp only [beq_iff_eq]; exact eq_comm)
  · obtain ⟨j, hj, rfl⟩ := List.mem_map.1 hf
    rw [List.mem_range] at hj
    have := h j hj
    refine fStrEq (l := keysL.getD j []) (m := w) rfl rfl (same_str _ _) ?_ rfl
    show PV.bool _ = _
    rw [← this]
theorem contains_ev (w : List UInt8) : Ev PG f_slices_Contains_sl_string_string [strsP keysL, .str w] (.bool (keysL.contains w)) := by
  by_cases hc : ∃ i, i < 33 ∧ keysL.getD i [] = w
  · obtain ⟨i, hi, hw⟩ : ∃ i, (i < 33 ∧ keysL.getD i [] = w) ∧ ∀ j, j < i → ¬ keysL.getD j [] = w := by
      obtain ⟨i, hi⟩ := hc
      induction i using Nat.strongRecOn with
      | _ i ih =>
        by_cases hm : ∃ j, j < i ∧ keysL.getD j [] = w
        · obtain ⟨j, h1, h2⟩ := hm; exact ih j h1 ⟨by omega, h2⟩
        · exact ⟨i, hi, fun j h1 h2 => hm ⟨j, h1, h2⟩⟩
    have e : keysL.contains w = true := by
      rw [List.contains_iff_mem, ← hi.2, List.getD_eq_getElem?_getD, List.getElem?_eq_getElem (by rw [keysL_len]; exact hi.1)]
      exact List.getElem_mem _
    rw [e]
    refine Ev.facts (nu := nuL [.str w]) (args := [strsP keysL, .atom 0]) prog_ok (nuL_okB rfl) (okR_eq (List.all_eq_true.1 co_k i (by rw [List.mem_range]; exact hi.1))) (coF_ok fun j hj => ?_) rfl rfl
    rw [if_pos rfl] at hj
    by_cases hji : j = i
    · subst hji; rw [hi.2]; simp
    · have := hw j (by omega)
      rw [decide_eq_false hji]; exact beq_eq_false_iff_ne.2 this
  · have e : keysL.contains w = false := by
      rw [Bool.eq_false_iff]
      intro h
      rw [List.contains_iff_mem] at h
      obtain ⟨i, hi, hw⟩ := List.getElem_of_mem h
      exact hc ⟨i, by rw [keysL_len] at hi; exact hi, by rw [List.getD_eq_getElem?_getD, List.getElem?_eq_getElem hi, Option.getD_some, hw]⟩
    rw [e]
    refine Ev.facts (nu := nuL [.str w]) (args := [strsP keysL, .atom 0]) prog_ok (nuL_okB rfl) (okR_eq co_k0) (coF_ok fun j hj => ?_) rfl rfl
    have hj' : j < 33 := by simpa using hj
    have h1 : ¬ keysL.getD j [] = w := fun h => hc ⟨j, hj', h⟩
    have h2 : ¬ j = 33 := by omega
    rw [decide_eq_false h2]; exact beq_eq_false_iff_ne.2 h1
end Go.Proofs.YtdlkibeljkapeaaGreatDoor.Den
namespace Go.Proofs.YtdlkibeljkapeaaGreatDoor.Den
open Go Go.RowKit
def sgA (k a w v0 v1 v2 v3 e : PV) : PV := .agg [k, a, w, v0, v1, v2, v3, e]
def sgP (k at_ : Int) (w : List UInt8) (e : Int) : PV := sgA (nI k) (nI at_) (.str w) (nI 0) (nI 0) (nI 0) (.str []) (nI e)
theorem fSlice {nu : Nat → PV} {x lo hi r : PV} {s w : List UInt8} {i j : Nat} (h1 : subD nu x = .str s) (h2 : subD nu lo = nI i) (h3 : subD nu hi = nI j) (hij : i ≤ j ∧ j ≤ s.length) (hw : (s.take j).drop i = w) (h4 : subD nu r = .str w) (h5 : oneB nu r = true) : FactOk PG nu (.op (.slice ty_string true true) [x, lo, hi] r) := by
  refine ⟨?_, h5⟩
  show sliceP PG ty_string (subD nu x) (some (subD nu lo)) (some (subD nu hi)) = some (subD nu r)
  rw [h1, h2, h3, h4]
  unfold sliceP
  rw [u_string]
  have e1 : optBound (some (nI j)) s.length s.length = some j := by
    show (if 0 ≤ (j : Int) ∧ (j : Int) ≤ (s.length : Int) then some ((j : Int).toNat) else none) = _
    rw [if_pos (by omega), Int.toNat_natCast]
  have e2 : optBound (some (nI i)) j 0 = some i := by
    show (if 0 ≤ (i : Int) ∧ (i : Int) ≤ (j : Int) then some ((i : Int).toNat) else none) = _
    rw [if_pos (by omega), Int.toNat_natCast]
  simp only [boundsP, e1, e2, hw]
theorem fSliceTo {nu : Nat → PV} {x lo r : PV} {s w : List UInt8} {i : Nat} (h1 : subD nu x = .str s) (h2 : subD nu lo = nI i) (hij : i ≤ s.length) (hw : s.drop i = w) (h4 : subD nu r = .str w) (h5 : oneB nu r = true) : FactOk PG nu (.op (.slice ty_string true false) [x, lo] r) := by
  refine ⟨?_, h5⟩
  show sliceP PG ty_string (subD nu x) (some (subD nu lo)) none = some (subD nu r)
  rw [h1, h2, h4]
  unfold sliceP
  rw [u_string]
  have e1 : optBound none s.length s.length = some s.length := rfl
  have e2 : optBound (some (nI i)) s.length 0 = some i := by
    show (if 0 ≤ (i : Int) ∧ (i : Int) ≤ (s.length : Int) then some ((i : Int).toNat) else none) = _
    rw [if_pos (by omega), Int.toNat_natCast]
  simp only [boundsP, e1, e2, List.take_length, hw]
theorem fU8 {nu : Nat → PV} {op : BinOp} {x y r : PV} {a b : Int} {p : PV} (hx : subD nu x = .int .u8 a) (hy : subD nu y = .int .u8 b) (h : intP op .u8 a b = some p) (hr : subD nu r = p) (hs : op ≠ .shl ∧ op ≠ .shr) (h1 : oneB nu r = true) : FactOk PG nu (.op (.bin op ty_uint8) [x, y] r) := by
  refine ⟨?_, h1⟩
  show binP PG op ty_uint8 (subD nu x) (subD nu y) = some (subD nu r)
  rw [hx, hy, hr, ← h]
  cases op <;> first | rfl | exact absurd rfl hs.1 | exact absurd rfl hs.2
theorem past_bd (p : UInt8 → Bool) (s : List UInt8) (i : Nat) (hi : i ≤ s.length) : i ≤ pastN p s i ∧ pastN p s i ≤ s.length := by
  unfold pastN
  have h : (s.drop i).takeWhile p <+: s.drop i := List.takeWhile_prefix p
  have := h.length_le
  rw [List.length_drop] at this
  omega
theorem past_take (p : UInt8 → Bool) (s : List UInt8) (i : Nat) : (s.take (pastN p s i)).drop i = (s.drop i).takeWhile p := by
  unfold pastN
  rw [List.drop_take, Nat.add_sub_cancel_left]
  have h : (s.drop i).takeWhile p <+: s.drop i := List.takeWhile_prefix p
  exact (List.prefix_iff_eq_take.1 h).symm
def leF (b q : Bool) : List Fact :=
  [.prim f_sql_past [.atom 0, .atom 1, .fn f_sql_inner [] []] (.atom 2), .op (.slice ty_string true true) [.atom 0, .atom 1, .atom 2] (.atom 3), .prim f_sql_keys [] (strsP keysL), .prim f_slices_Contains_sl_string_string [strsP keysL, .atom 3] (.bool b),
   .op (.len ty_string) [.atom 3] (.atom 4), oI .gtr (.atom 4) (nI 12) (.bool q)]
def sg0 (a : PV) : PV := sgA (nI 0) a (.str []) (nI 0) (nI 0) (nI 0) (.str []) (nI 0)
def leR (b q : Bool) : PV := .tup [sgA (nI (if b then 1 else 2)) (.atom 1) (.atom 3) (nI 0) (nI 0) (nI 0) (.str []) (nI (if q then 11 else 0)), .atom 2]
theorem le_k : (bl fun b => bl fun q => okR (leR b q) (callF PG (fOrc noOwn (leF b q)) 10 f_sql_letters [.atom 0, sg0 (.atom 1)] [])) = true := by kernel_rfl
def wordAt (s : List UInt8) (i : Nat) : List UInt8 := (s.drop i).takeWhile isInner
theorem letters_ev {s : List UInt8} (hs : s.length ≤ 9223372036854775806) (i : Nat) (hi : i ≤ s.length) :
    Ev PG f_sql_letters [.str s, sgP 0 i [] 0] (.tup [sgP (if keysL.contains (wordAt s i) then 1 else 2) i (wordAt s i) (if 12 < (wordAt s i).length then 11 else 0), nI (pastN isInner s i : Nat)]) := by
  have hb := past_bd isInner s i hi
  have hk := okR_eq (bl_all (bl_all le_k (keysL.contains (wordAt s i))) (decide (((wordAt s i).length : Int) > 12)))
  have := Ev.facts (nu := nuL [.str s, nI i, nI (pastN isInner s i : Nat), .str (wordAt s i), nI (wordAt s i).length]) prog_ok (nuL_okB rfl) hk
    ⟨fprim (past_inner hs i hi) rfl rfl rfl, fSlice rfl rfl rfl hb (past_take _ _ _) rfl rfl, fprim keys_ev rfl rfl rfl, fprim (contains_ev _) rfl rfl rfl, fStrLen rfl rfl rfl, fCmp rfl rfl rfl rfl (by decide) rfl, trivial⟩ rfl (by cases keysL.contains (wordAt s i) <;> cases decide (((wordAt s i).length : Int) > 12) <;> rfl)
  have e1 : (if 12 < (wordAt s i).length then (11 : Int) else 0) = if decide (((wordAt s i).length : Int) > 12) then 11 else 0 := by
    by_cases h : 12 < (wordAt s i).length
    · rw [if_pos h, decide_eq_true (by omega)]; rfl
    · rw [if_neg h, decide_eq_false (by omega)]; rfl
  rw [e1]
  exact this
end Go.Proofs.YtdlkibeljkapeaaGreatDoor.Den
namespace Go.Proofs.YtdlkibeljkapeaaGreatDoor.Den
open Go Go.RowKit
abbrev V4 := Int × Int × Int × List UInt8
structure Sg where
  k : Int
  a : Int
  w : List UInt8
  v : V4
  e : Int
def Sg.pv (x : Sg) : PV := sgA (nI x.k) (nI x.a) (.str x.w) (nI x.v.1) (nI x.v.2.1) (nI x.v.2.2.1) (.str x.v.2.2.2) (nI x.e)
def v0 : V4 := (0, 0, 0, [])
abbrev bI (op : BinOp) (x : PV) (n : Int) (b : Bool) : Fact := .op (.bin op ty_uint8) [x, .int .u8 n] (.bool b)
def rdB : List Fact := [.prim f_sql_past [.atom 0, .atom 1, .fn f_sql_blank [] []] (.atom 2), .op (.len ty_string) [.atom 0] (.atom 3), oI .eql (.atom 2) (.atom 3) (.bool false), .op (.index ty_string) [.atom 0, .atom 2] (.atom 4)]
def rdX : Nat → List Fact
  | 0 => [bI .eql (.atom 4) 120 false]
  | 1 => [bI .eql (.atom 4) 120 true, oI .add (.atom 2) (nI 1) (.atom 5), oI .lss (.atom 5) (.atom 3) (.bool false)]
  | _ => [bI .eql (.atom 4) 120 true, oI .add (.atom 2) (nI 1) (.atom 5), oI .lss (.atom 5) (.atom 3) (.bool true), .op (.index ty_string) [.atom 0, .atom 5] (.atom 6), bI .eql (.atom 6) 39 false]
def rdR : PV := .tup [sgA (.atom 7) (.atom 8) (.atom 9) (.atom 10) (.atom 11) (.atom 12) (.atom 13) (.atom 14), .atom 15]
def rdS : Nat → List Fact
  | 0 => [.prim f_sql_small [.atom 4] (.bool true), .prim f_sql_letters [.atom 0, sg0 (.atom 2)] rdR]
  | 1 => [.prim f_sql_small [.atom 4] (.bool false), .prim f_sql_digit [.atom 4] (.bool true), .prim f_sql_digits [.atom 0, sg0 (.atom 2)] rdR]
  | _ => [.prim f_sql_small [.atom 4] (.bool false), .prim f_sql_digit [.atom 4] (.bool false), bI .eql (.atom 4) 39 true, .prim f_sql_text [.atom 0, sg0 (.atom 2)] rdR]
theorem rd_k : ((List.range 3).all fun v => (List.range 3).all fun w => okR rdR (callF PG (fOrc noOwn (rdB ++ (rdX v ++ rdS w))) 20 f_sql_read [.atom 0, .atom 1] [])) = true := by kernel_rfl
def rdNu (s : List UInt8) (i i' : Nat) (c c2 : UInt8) (x : Sg) (te : Nat) : List PV :=
  [.str s, nI i, nI i', nI s.length, nB c, nI (i' + 1 : Nat), nB c2, nI x.k, nI x.a, .str x.w, nI x.v.1, nI x.v.2.1, nI x.v.2.2.1, .str x.v.2.2.2, nI x.e, nI te]
theorem u8eq {c : UInt8} {n : Nat} {b : Bool} (hn : n < 256) (h : (c == UInt8.ofNat n) = b) : intP .eql .u8 (c.toNat : Int) (n : Int) = some (.bool b) := by
  show some (PV.bool (((c.toNat : Nat) : Int) == (n : Int))) = _
  rw [← h]
  congr 2
  refine Bool.eq_iff_iff.2 ?_
  simp only [beq_iff_eq]
  constructor
  · intro h'
    have h2 : c.toNat = n := by omega
    rw [← h2]; simp
  · intro h'
    rw [h']
    simp only [UInt8.toNat_ofNat']
    omega
theorem read_ev {s : List UInt8} (hs : s.length ≤ 9223372036854775806) (i : Nat) (hi : i ≤ s.length) {c : UInt8} (hc : s[pastN isBlank s i]? = some c) (hx : c = 120 → s[pastN isBlank s i + 1]? ≠ some 39) {x : Sg} {te : Nat}
    (h : (isSmall c = true ∧ Ev PG f_sql_letters [.str s, sgP 0 (pastN isBlank s i : Nat) [] 0] (.tup [x.pv, nI te])) ∨
      (isDigit c = true ∧ Ev PG f_sql_digits [.str s, sgP 0 (pastN isBlank s i : Nat) [] 0] (.tup [x.pv, nI te])) ∨
      (c = 39 ∧ Ev PG f_sql_text [.str s, sgP 0 (pastN isBlank s i : Nat) [] 0] (.tup [x.pv, nI te]))) : Ev PG f_sql_read [.str s, nI i] (.tup [x.pv, nI te]) := by
  generalize hi' : pastN isBlank s i = i' at *
  have hb := past_bd isBlank s i hi
  rw [hi'] at hb
  have hil : i' < s.length := (List.getElem?_eq_some_iff.1 hc).1
  have hp := past_blank hs i hi
  rw [hi'] at hp
  have hne : ¬ (i' : Int) = (s.length : Int) := by omega
  obtain ⟨c2, hc2⟩ : ∃ c2 : UInt8, (i' + 1 < s.length → s[i' + 1]? = some c2) := by
    by_cases h1 : i' + 1 < s.length
    · exact ⟨s[i' + 1], fun _ => List.getElem?_eq_getElem h1⟩
    · exact ⟨0, fun h => absurd h h1⟩
  have e5 : IntKind.i64.wrap ((i' : Int) + 1) = ((i' + 1 : Nat) : Int) := by rw [w6_id (by omega) (by omega)]; omega
  have fB : FactsOk PG (nuL (rdNu s i i' c c2 x te)) rdB := ⟨fprim hp rfl rfl rfl, fStrLen rfl rfl rfl, fCmp (c := false) (a := i') (b := s.length) rfl rfl rfl (by show some (PV.bool ((i' : Int) == (s.length : Int))) = _; rw [beq_eq_false_iff_ne.2 hne]) (by decide) rfl, fStrIx rfl rfl hc rfl rfl, trivial⟩
  have fX : ∃ v, v < 3 ∧ FactsOk PG (nuL (rdNu s i i' c c2 x te)) (rdX v) := by
    by_cases h1 : c = 120
    · subst h1
      by_cases h2 : i' + 1 < s.length
      · refine ⟨2, by decide, fU8 (a := (120 : Nat)) (b := (120 : Nat)) rfl rfl (u8eq (c := 120) (n := 120) (b := true) (by decide) rfl) rfl (by decide) rfl, fInt (a := i') (b := 1) rfl rfl rfl (by simp only [intP]; rw [e5]) (by decide) rfl,
          fCmp (c := true) (a := (i' + 1 : Nat)) (b := s.length) rfl rfl rfl (by simp only [intP]; rw [decide_eq_true (by omega)]) (by decide) rfl, fStrIx (s := s) (n := i' + 1) (c := c2) rfl rfl (hc2 h2) rfl rfl, ?_, trivial⟩
        have h3 : c2 ≠ 39 := fun e => hx rfl (by rw [hc2 h2, e])
        exact fU8 (a := (c2.toNat : Nat)) (b := (39 : Nat)) rfl rfl (u8eq (c := c2) (n := 39) (b := false) (by decide) (beq_eq_false_iff_ne.2 h3)) rfl (by decide) rfl
      · exact ⟨1, by decide, fU8 (a := (120 : Nat)) (b := (120 : Nat)) rfl rfl (u8eq (c := 120) (n := 120) (b := true) (by decide) rfl) rfl (by decide) rfl, fInt (a := i') (b := 1) rfl rfl rfl (by simp only [intP]; rw [e5]) (by decide) rfl,
          fCmp (c := false) (a := (i' + 1 : Nat)) (b := s.length) rfl rfl rfl (by simp only [intP]; rw [decide_eq_false (by omega)]) (by decide) rfl, trivial⟩
    · exact ⟨0, by decide, fU8 (a := (c.toNat : Nat)) (b := (120 : Nat)) rfl rfl (u8eq (c := c) (n := 120) (b := false) (by decide) (beq_eq_false_iff_ne.2 h1)) rfl (by decide) rfl, trivial⟩
  obtain ⟨v, hv, fX⟩ := fX
  have fin : ∀ w, w < 3 → FactsOk PG (nuL (rdNu s i i' c c2 x te)) (rdS w) → Ev PG f_sql_read [.str s, nI i] (.tup [x.pv, nI te]) := fun w hw fS =>
    Ev.facts (nu := nuL (rdNu s i i' c c2 x te)) (args := [.atom 0, .atom 1]) prog_ok (nuL_okB rfl) (okR_eq (List.all_eq_true.1 (List.all_eq_true.1 rd_k v (by rw [List.mem_range]; exact hv)) w (by rw [List.mem_range]; exact hw))) (FactsOk.append fB (FactsOk.append fX fS)) rfl rfl
  rcases h with ⟨h1, h2⟩ | ⟨h1, h2⟩ | ⟨h1, h2⟩
  · have hsm := small_ev c
    rw [h1] at hsm
    exact fin 0 (by decide) ⟨fprim hsm rfl rfl rfl, fprim h2 rfl rfl rfl, trivial⟩
  · have h3 : isSmall c = false := by
      simp only [isDigit, isSmall, Bool.and_eq_true, decide_eq_true_eq] at h1 ⊢
      rw [decide_eq_false (by omega)]; rfl
    have hsm := small_ev c
    have hdg := digit_ev c
    rw [h3] at hsm
    rw [h1] at hdg
    exact fin 1 (by decide) ⟨fprim hsm rfl rfl rfl, fprim hdg rfl rfl rfl, fprim h2 rfl rfl rfl, trivial⟩
  · subst h1
    have hsm := small_ev 39
    have hdg := digit_ev 39
    rw [show isSmall 39 = false from rfl] at hsm
    rw [show isDigit 39 = false from rfl] at hdg
    exact fin 2 (by decide) ⟨fprim hsm rfl rfl rfl, fprim hdg rfl rfl rfl, fU8 (a := (39 : Nat)) (b := (39 : Nat)) rfl rfl (u8eq (c := 39) (n := 39) (b := true) (by decide) rfl) rfl (by decide) rfl, fprim h2 rfl rfl rfl, trivial⟩
end Go.Proofs.YtdlkibeljkapeaaGreatDoor.Den
namespace Go.Proofs.YtdlkibeljkapeaaGreatDoor.Den
open Go Go.RowKit
def hpF (b : Bool) (q : Bool) : List Fact := [.op (.len ty_string) [.atom 0] (.atom 2), .op (.len ty_string) [.atom 1] (.atom 3), oI .geq (.atom 2) (.atom 3) (.bool b), .op (.slice ty_string false true) [.atom 0, .atom 3] (.atom 4), .op (.bin .eql ty_string) [.atom 4, .atom 1] (.bool q)]
theorem hp_k1 : (bl fun q => okR (.bool q) (callF PG (fOrc noOwn (hpF true q)) 10 f_strings_HasPrefix [.atom 0, .atom 1] [])) = true := by kernel_rfl
theorem hp_k0 : okR (.bool false) (callF PG (fOrc noOwn [.op (.len ty_string) [.atom 0] (.atom 2), .op (.len ty_string) [.atom 1] (.atom 3), oI .geq (.atom 2) (.atom 3) (.bool false)]) 10 f_strings_HasPrefix [.atom 0, .atom 1] []) = true := by kernel_rfl
theorem fSliceFr {nu : Nat → PV} {x hi r : PV} {s w : List UInt8} {j : Nat} (h1 : subD nu x = .str s) (h3 : subD nu hi = nI j) (hij : j ≤ s.length) (hw : s.take j = w) (h4 : subD nu r = .str w) (h5 : oneB nu r = true) : FactOk PG nu (.op (.slice ty_string false true) [x, hi] r) := by
  refine ⟨?_, h5⟩
  show sliceP PG ty_string (subD nu x) none (some (subD nu hi)) = some (subD nu r)
  rw [h1, h3, h4]
  unfold sliceP
  rw [u_string]
  have e1 : optBound (some (nI j)) s.length s.length = some j := by
    show (if 0 ≤ (j : Int) ∧ (j : Int) ≤ (s.length : Int) then some ((j : Int).toNat) else none) = _
    rw [if_pos (by omega), Int.toNat_natCast]
  have e2 : optBound none j 0 = some 0 := rfl
  simp only [boundsP, e1, e2, List.drop_zero, hw]
theorem hasPrefix_ev (a m : List UInt8) : Ev PG f_strings_HasPrefix [.str a, .str m] (.bool (m.isPrefixOf a)) := by
  by_cases h : m.length ≤ a.length
  · have e : m.isPrefixOf a = (a.take m.length == m) := by
      refine Bool.eq_iff_iff.2 ?_
      rw [List.isPrefixOf_iff_prefix, List.prefix_iff_eq_take, beq_iff_eq]
      exact eq_comm
    rw [e]
    exact Ev.facts (nu := nuL [.str a, .str m, nI a.length, nI m.length, .str (a.take m.length)]) prog_ok (nuL_okB rfl) (okR_eq (bl_all hp_k1 (a.take m.length == m)))
      ⟨fStrLen rfl rfl rfl, fStrLen rfl rfl rfl, fCmp (c := true) (a := a.length) (b := m.length) rfl rfl rfl (by simp only [intP]; rw [decide_eq_true (by omega)]) (by decide) rfl, fSliceFr rfl rfl h rfl rfl rfl, fStrEq (l := a.take m.length) (m := m) rfl rfl (same_str _ _) rfl rfl, trivial⟩ rfl rfl
  · have e : m.isPrefixOf a = false := by
      rw [Bool.eq_false_iff]
      intro h'
      have := (List.isPrefixOf_iff_prefix.1 h').length_le
      omega
    rw [e]
    exact Ev.facts (nu := nuL [.str a, .str m, nI a.length, nI m.length]) (args := [.atom 0, .atom 1]) prog_ok (nuL_okB rfl) (okR_eq hp_k0)
      ⟨fStrLen rfl rfl rfl, fStrLen rfl rfl rfl, fCmp (c := false) (a := a.length) (b := m.length) rfl rfl rfl (by simp only [intP]; rw [decide_eq_false (by omega)]) (by decide) rfl, trivial⟩ rfl rfl
theorem re_k : okR (.tup [sg0 (.atom 2), .atom 2]) (callF PG (fOrc noOwn [.prim f_sql_past [.atom 0, .atom 1, .fn f_sql_blank [] []] (.atom 2), .op (.len ty_string) [.atom 0] (.atom 3), oI .eql (.atom 2) (.atom 3) (.bool true)]) 20 f_sql_read [.atom 0, .atom 1] []) = true := by kernel_rfl
theorem read_end {s : List UInt8} (hs : s.length ≤ 9223372036854775806) (i : Nat) (hi : i ≤ s.length) (h : pastN isBlank s i = s.length) : Ev PG f_sql_read [.str s, nI i] (.tup [sgP 0 s.length [] 0, nI s.length]) := by
  have hp := past_blank hs i hi
  rw [h] at hp
  exact Ev.facts (nu := nuL [.str s, nI i, nI s.length, nI s.length]) prog_ok (nuL_okB rfl) (okR_eq re_k) ⟨fprim hp rfl rfl rfl, fStrLen rfl rfl rfl, fCmp (c := true) (a := s.length) (b := s.length) rfl rfl rfl (by simp only [intP]; simp) (by decide) rfl, trivial⟩ rfl rfl
def rmF (i : Nat) : List Fact :=
  rdB ++ ([bI .eql (.atom 4) 120 false, .prim f_sql_small [.atom 4] (.bool false), .prim f_sql_digit [.atom 4] (.bool false), bI .eql (.atom 4) 39 false, .prim f_sql_marks [] (strsP marksL), .op (.slice ty_string true false) [.atom 0, .atom 2] (.atom 5), oI .add (.atom 2) (nI 1) (.atom 6), oI .add (.atom 2) (nI 2) (.atom 7)] ++
    (List.range (if i < 11 then i + 1 else 11)).map fun j => .prim f_strings_HasPrefix [.atom 5, .str (marksL.getD j [])] (.bool (Nat.beq j i)))
def mkW (i : Nat) : List UInt8 := marksL.getD i []
theorem rm_k : ((List.range 11).all fun i => okR (.tup [sgA (nI 5) (.atom 2) (.str (mkW i)) (nI 0) (nI 0) (nI 0) (.str []) (nI 0), if i < 2 then .atom 7 else .atom 6]) (callF PG (fOrc noOwn (rmF i)) 20 f_sql_read [.atom 0, .atom 1] [])) = true := by kernel_rfl
theorem rmF_ok {s : List UInt8} (hs : s.length ≤ 9223372036854775805) (i : Nat) (hi : i ≤ s.length) {c : UInt8} (hc : s[pastN isBlank s i]? = some c) (h1 : isSmall c = false) (h2 : isDigit c = false) (h3 : c ≠ 39) (m : Nat)
    (hm : ∀ j, j < (if m < 11 then m + 1 else 11) → (mkW j).isPrefixOf (s.drop (pastN isBlank s i)) = Nat.beq j m) :
    FactsOk PG (nuL [.str s, nI i, nI (pastN isBlank s i : Nat), nI s.length, nB c, .str (s.drop (pastN isBlank s i)), nI (pastN isBlank s i + 1 : Nat), nI (pastN isBlank s i + 2 : Nat)]) (rmF m) := by
  have hp := past_blank (by omega) i hi
  have hb := past_bd isBlank s i hi
  generalize pastN isBlank s i = i' at *
  have hil : i' < s.length := (List.getElem?_eq_some_iff.1 hc).1
  have hne : ¬ (i' : Int) = (s.length : Int) := by omega
  have hsm := small_ev c
  have hdg := digit_ev c
  rw [h1] at hsm
  rw [h2] at hdg
  have h4 : c ≠ 120 := fun e => by subst e; cases h1
  have e1 : IntKind.i64.wrap ((i' : Int) + 1) = ((i' + 1 : Nat) : Int) := by rw [w6_id (by omega) (by omega)]; omega
  have e2 : IntKind.i64.wrap ((i' : Int) + 2) = ((i' + 2 : Nat) : Int) := by rw [w6_id (by omega) (by omega)]; omega
  refine FactsOk.append ⟨fprim hp rfl rfl rfl, fStrLen rfl rfl rfl, fCmp (c := false) (a := i') (b := s.length) rfl rfl rfl (by show some (PV.bool ((i' : Int) == (s.length : Int))) = _; rw [beq_eq_false_iff_ne.2 hne]) (by decide) rfl, fStrIx rfl rfl hc rfl rfl, trivial⟩
    (FactsOk.append ⟨fU8 (a := (c.toNat : Nat)) (b := (120 : Nat)) rfl rfl (u8eq (c := c) (n := 120) (b := false) (by decide) (beq_eq_false_iff_ne.2 h4)) rfl (by decide) rfl, fprim hsm rfl rfl rfl, fprim hdg rfl rfl rfl,
      fU8 (a := (c.toNat : Nat)) (b := (39 : Nat)) rfl rfl (u8eq (c := c) (n := 39) (b := false) (by decide) (beq_eq_false_iff_ne.2 h3)) rfl (by decide) rfl, fprim marks_ev rfl rfl rfl, fSliceTo rfl rfl (by omega) rfl rfl rfl,
      fInt (a := i') (b := 1) rfl rfl rfl (by simp only [intP]; rw [e1]) (by decide) rfl, fInt (a := i') (b := 2) rfl rfl rfl (by simp only [intP]; rw [e2]) (by decide) rfl, trivial⟩ (FactsOk.of fun f hf => ?_))
  obtain ⟨j, hj, rfl⟩ := List.mem_map.1 hf
  rw [List.mem_range] at hj
  have hh := hasPrefix_ev (s.drop i') (mkW j)
  rw [hm j hj] at hh
  exact fprim hh rfl rfl rfl
theorem read_mark {s : List UInt8} (hs : s.length ≤ 9223372036854775805) (i : Nat) (hi : i ≤ s.length) {c : UInt8} (hc : s[pastN isBlank s i]? = some c) (h1 : isSmall c = false) (h2 : isDigit c = false) (h3 : c ≠ 39) (m : Nat) (hm11 : m < 11)
    (hm : ∀ j, j ≤ m → (mkW j).isPrefixOf (s.drop (pastN isBlank s i)) = Nat.beq j m) : Ev PG f_sql_read [.str s, nI i] (.tup [sgP 5 (pastN isBlank s i : Nat) (mkW m) 0, nI (pastN isBlank s i + (if m < 2 then 2 else 1) : Nat)]) := by
  have hk := okR_eq (List.all_eq_true.1 rm_k m (by rw [List.mem_range]; exact hm11))
  have hf := rmF_ok hs i hi hc h1 h2 h3 m (fun j hj => hm j (by rw [if_pos hm11] at hj; omega))
  by_cases hlt : m < 2
  · rw [if_pos hlt] at hk
    rw [if_pos hlt]
    exact Ev.facts prog_ok (nuL_okB rfl) hk hf rfl rfl
  · rw [if_neg hlt] at hk
    rw [if_neg hlt]
    exact Ev.facts prog_ok (nuL_okB rfl) hk hf rfl rfl
end Go.Proofs.YtdlkibeljkapeaaGreatDoor.Den
namespace Go.Proofs.YtdlkibeljkapeaaGreatDoor.Den
open Go Go.RowKit
end Go.Proofs.YtdlkibeljkapeaaGreatDoor.Den
namespace Go.Proofs.YtdlkibeljkapeaaGreatDoor.Den
open Go Go.RowKit
theorem fStrAdd {nu : Nat → PV} {x y r : PV} {l m : List UInt8} (h1 : subD nu x = .str l) (h2 : subD nu y = .str m) (hl : l.length + m.length ≤ 9223372036854775807) (h3 : subD nu r = .str (l ++ m)) (h4 : oneB nu r = true) : FactOk PG nu (.op (.bin .add ty_string) [x, y] r) :=
  fStrEq h1 h2 (by show (if l.length + m.length ≤ 9223372036854775807 then some (PV.str (l ++ m)) else none) = _; rw [if_pos hl]) h3 h4
end Go.Proofs.YtdlkibeljkapeaaGreatDoor.Den
namespace Go.Proofs.YtdlkibeljkapeaaGreatDoor.Den
open Go Go.RowKit
end Go.Proofs.YtdlkibeljkapeaaGreatDoor.Den
namespace Go.Proofs.YtdlkibeljkapeaaGreatDoor.Den
open Go Go.RowKit
def okRS (e : PV) (s : List Res) : Option (PV × List Res) → Bool
  | some (r, t) => PV.same r e && sameS t s
  | none => false
theorem okRS_eq {e : PV} {s : List Res} {o : Option (PV × List Res)} (h : okRS e s o = true) : o = some (e, s) := by
  cases o with
  | none => cases h
  | some q =>
    simp only [okRS, Bool.and_eq_true] at h
    rw [← same_eq _ _ h.1, ← sameS_eq h.2]
def stX (s k a w v0 v1 v2 v3 e tt dp at_ er : PV) : List Res := [.box [s, k, a, w, v0, v1, v2, v3, e, tt, dp, at_, er]]
def okP (s k a w v0 v1 v2 v3 tt dp : PV) : List Res := stX s k a w v0 v1 v2 v3 (nI 0) tt dp (nI 0) (nI 0)
def okL (s : List UInt8) (x : Sg) (tt dp : Nat) : List Res := okP (.str s) (nI x.k) (nI x.a) (.str x.w) (nI x.v.1) (nI x.v.2.1) (nI x.v.2.2.1) (.str x.v.2.2.2) (nI tt) (nI dp)
def flP (s a tt dp at_ : PV) : List Res := stX s (nI 0) a (.str []) (nI 0) (nI 0) (nI 0) (.str []) (nI 0) tt dp at_ (nI 11)
def flL (s : List UInt8) (a : Int) (tt dp : Nat) (at_ : Int) : List Res := flP (.str s) (nI a) (nI tt) (nI dp) (nI at_)
def okA (j : Nat) : List Res := okP (.atom 0) (.atom (j + 0)) (.atom (j + 1)) (.atom (j + 2)) (.atom (j + 3)) (.atom (j + 4)) (.atom (j + 5)) (.atom (j + 6)) (.atom (j + 7)) (.atom (j + 8))
def okV (x : Sg) (tt dp : Nat) : List PV := [nI x.k, nI x.a, .str x.w, nI x.v.1, nI x.v.2.1, nI x.v.2.2.1, .str x.v.2.2.2, nI tt, nI dp]
def isM (x : Sg) (m : List UInt8) : Bool := (x.k == 1 || x.k == 5) && x.w == m
def isF (b1 b5 bw : Bool) : List Fact := [oI .eql (.atom 1) (nI 1) (.bool b1), oI .eql (.atom 1) (nI 5) (.bool b5), .op (.bin .eql ty_string) [.atom 3, .atom 10] (.bool bw)]
theorem is_k : bl (fun b1 => bl fun b5 => bl fun bw => okRS (.bool ((b1 || b5) && bw)) (okA 1) (callF PG (fOrc noOwn (isF b1 b5 bw)) 20 f_sql_parser_is [.box 0 0, .atom 10] (okA 1))) = true := by kernel_rfl
theorem i64eq (a b : Int) : intP .eql .i64 a b = some (.bool (a == b)) := rfl
theorem is_ev (s : List UInt8) (x : Sg) (tt dp : Nat) (m : List UInt8) : EvS PG f_sql_parser_is [.box 0 0, .str m] (okL s x tt dp) (.bool (isM x m)) (okL s x tt dp) :=
  EvS.facts (nu := nuL (.str s :: (okV x tt dp ++ [PV.str m]))) (args := [.box 0 0, .atom 10]) (s := okA 1) (s' := okA 1) (r := .bool ((x.k == 1 || x.k == 5) && x.w == m)) prog_ok (nuL_okB rfl) (okRS_eq (bl_all (bl_all (bl_all is_k (x.k == 1)) (x.k == 5)) (x.w == m)))
    ⟨fCmp rfl rfl rfl (i64eq _ _) (by decide) rfl, fCmp rfl rfl rfl (i64eq _ _) (by decide) rfl, fStrEq rfl rfl (same_str _ _) rfl rfl, trivial⟩ rfl rfl rfl
theorem next_k : okRS (.tup []) (okP (.atom 0) (.atom 10) (.atom 11) (.atom 12) (.atom 13) (.atom 14) (.atom 15) (.atom 16) (.atom 17) (.atom 9)) (callF PG (fOrc noOwn [.prim f_sql_read [.atom 0, .atom 8] (.tup [sgA (.atom 10) (.atom 11) (.atom 12) (.atom 13) (.atom 14) (.atom 15) (.atom 16) (nI 0), .atom 17]), oI .eql (.atom 10) (nI 6) (.bool false)]) 20 f_sql_parser_next [.box 0 0] (okA 1)) = true := by kernel_rfl
structure Rd (s : List UInt8) (i : Nat) (x : Sg) (j : Nat) : Prop where
  ev : Ev PG f_sql_read [.str s, nI i] (.tup [x.pv, nI j])
  e : x.e = 0
  k : x.k ≠ 6
theorem next_ev {s : List UInt8} (x : Sg) {tt : Nat} (dp : Nat) {y : Sg} {tu : Nat} (h : Rd s tt y tu) : EvS PG f_sql_parser_next [.box 0 0] (okL s x tt dp) (.tup []) (okL s y tu dp) := by
  obtain ⟨he, h0, hk⟩ := h
  obtain ⟨k, a, w, v, e⟩ := y
  dsimp only at h0 hk
  subst h0
  exact EvS.facts (nu := nuL (.str s :: (okV x tt dp ++ okV ⟨k, a, w, v, 0⟩ tu dp))) (args := [.box 0 0]) prog_ok (nuL_okB rfl) (okRS_eq next_k) ⟨fprim he rfl rfl rfl, fCmp (c := false) rfl rfl rfl (by rw [i64eq, beq_eq_false_iff_ne.2 hk]) (by decide) rfl, trivial⟩ rfl rfl rfl
end Go.Proofs.YtdlkibeljkapeaaGreatDoor.Den
namespace Go.Proofs.YtdlkibeljkapeaaGreatDoor.Den
open Go Go.RowKit
theorem fst1 {nu : Nat → PV} {g : FuncId} {args : List PV} {s s' : List Res} {r : PV} {a : List PV} {b d : List Res} {c : PV} (h : EvS PG g a b c d) (h1 : args.map (subD nu) = a) (h2 : s.map (subRes nu) = b) (h3 : subD nu r = c) (h4 : s'.map (subRes nu) = d) (h5 : (oneB nu r && s'.all (fnRes nu)) = true) : FactOk PG nu (.st g args s r s') :=
  ⟨by rw [h1, h2, h3, h4]; exact h, h5⟩
structure E7 where
  k : PV
  nm : PV
  v0 : PV
  v1 : PV
  v2 : PV
  v3 : PV
  l : PV
def E7.L (r : E7) : List PV := [r.k, r.nm, r.v0, r.v1, r.v2, r.v3, r.l]
def E7.pv (r : E7) : PV := .agg r.L
def E7.ok (r : E7) : Bool := r.L.all fun p => p.clean && p.pure
def exA (k nm v0 v1 v2 v3 l : PV) : PV := .agg [k, nm, v0, v1, v2, v3, l]
def eA (j : Nat) : PV := exA (.atom (j + 0)) (.atom (j + 1)) (.atom (j + 2)) (.atom (j + 3)) (.atom (j + 4)) (.atom (j + 5)) (.atom (j + 6))
def E7.zero : E7 := ⟨nI 0, .str [], nI 0, nI 0, nI 0, .str [], .nilslice⟩
def E7.un (k : Int) (r : E7) : E7 := ⟨nI k, .str [], nI 0, nI 0, nI 0, .str [], .slice 7 [r.pv]⟩
def E7.col (w : List UInt8) : E7 := ⟨nI 2, .str w, nI 0, nI 0, nI 0, .str [], .nilslice⟩
theorem E7.pure {r : E7} (h : r.ok = true) : r.pv.pure = true := by
  simp only [E7.ok, E7.L, List.all_cons, List.all_nil, Bool.and_eq_true, Bool.and_true] at h
  simp only [E7.pv, E7.L, PV.pure, PV.pureL, h, Bool.and_self]
theorem E7.un_ok {k : Int} {r : E7} (h : r.ok = true) : (E7.un k r).ok = true := by
  have := E7.pure h
  simp only [E7.un, E7.ok, E7.L, List.all_cons, List.all_nil, PV.clean, PV.pure, PV.pureL, this, Bool.and_self]
abbrev kw (s : String) : List UInt8 := bs s
abbrev isT (st : List Res) (m : String) (b : Bool) : Fact := .st f_sql_parser_is [.box 0 0, .str (kw m)] st (.bool b) st
theorem fIs {nu : Nat → PV} {st : List Res} {m : String} {b : Bool} {s : List UInt8} {x : Sg} {tt dp : Nat} (h1 : st.map (subRes nu) = okL s x tt dp) (h : isM x (kw m) = b) (h2 : st.all (fnRes nu) = true) : FactOk PG nu (isT st m b) := by
  refine fst1 (is_ev s x tt dp (kw m)) rfl h1 (by rw [h]; rfl) h1 ?_
  rw [h2]; rfl
def cnF0 (bm : Bool) : List Fact := [oI .eql (.atom 1) (nI 4) (.bool false), oI .eql (.atom 1) (nI 3) (.bool false), isT (okA 1) "true" false, isT (okA 1) "false" false, isT (okA 1) "null" false, isT (okA 1) "-" bm]
def cnF1 : List Fact := [.prim f_sql_read [.atom 0, .atom 8] (.tup [sgA (.atom 10) (.atom 11) (.atom 12) (.atom 13) (.atom 14) (.atom 15) (.atom 16) (nI 0), .atom 17]), oI .neq (.atom 10) (nI 3) (.bool true)]
def cnF (bm : Bool) : List Fact := cnF0 bm ++ (match bm with | true => cnF1 | false => [])
theorem cn_k2 : bl (fun bm => okRS (.tup [.agg [nI 0, nI 0, nI 0, .str []], .bool false]) (okA 1) (callF PG (fOrc noOwn (cnF bm)) 20 f_sql_parser_constant [.box 0 0] (okA 1))) = true := by kernel_rfl
structure NoLit (s : List UInt8) (x : Sg) (tt : Nat) : Prop where
  k4 : x.k ≠ 4
  k3 : x.k ≠ 3
  t : isM x (kw "true") = false
  f : isM x (kw "false") = false
  n : isM x (kw "null") = false
  m : isM x (kw "-") = true → ∃ y tu, Rd s tt y tu ∧ y.k ≠ 3
theorem i64ne (a b : Int) : intP .neq .i64 a b = some (.bool (a != b)) := rfl
theorem const_none {s : List UInt8} {x : Sg} {tt : Nat} (dp : Nat) (h : NoLit s x tt) : EvS PG f_sql_parser_constant [.box 0 0] (okL s x tt dp) (.tup [.agg [nI 0, nI 0, nI 0, .str []], .bool false]) (okL s x tt dp) := by
  obtain ⟨h4, h3, ht, hf, hn, hm⟩ := h
  cases hb : isM x (kw "-") with
  | false =>
    exact EvS.facts (nu := nuL (.str s :: okV x tt dp)) (args := [.box 0 0]) (s := okA 1) (s' := okA 1) prog_ok (nuL_okB rfl) (okRS_eq (bl_all cn_k2 false))
      ⟨fCmp (c := false) rfl rfl rfl (by rw [i64eq, beq_eq_false_iff_ne.2 h4]) (by decide) rfl, fCmp (c := false) rfl rfl rfl (by rw [i64eq, beq_eq_false_iff_ne.2 h3]) (by decide) rfl, fIs rfl ht rfl, fIs rfl hf rfl, fIs rfl hn rfl, fIs rfl hb rfl, trivial⟩ rfl rfl rfl
  | true =>
    obtain ⟨y, tu, ⟨he, h0, hk⟩, hy⟩ := hm hb
    obtain ⟨k, a, w, v, e⟩ := y
    dsimp only at h0 hk hy
    subst h0
    exact EvS.facts (nu := nuL (.str s :: (okV x tt dp ++ okV ⟨k, a, w, v, 0⟩ tu dp))) (args := [.box 0 0]) (s := okA 1) (s' := okA 1) prog_ok (nuL_okB rfl) (okRS_eq (bl_all cn_k2 true))
      ⟨fCmp (c := false) rfl rfl rfl (by rw [i64eq, beq_eq_false_iff_ne.2 h4]) (by decide) rfl, fCmp (c := false) rfl rfl rfl (by rw [i64eq, beq_eq_false_iff_ne.2 h3]) (by decide) rfl, fIs rfl ht rfl, fIs rfl hf rfl, fIs rfl hn rfl, fIs rfl hb rfl,
        fprim he rfl rfl rfl, fCmp (c := true) rfl rfl rfl (by rw [i64ne]; simp [hy]) (by decide) rfl, trivial⟩ rfl rfl rfl
end Go.Proofs.YtdlkibeljkapeaaGreatDoor.Den
namespace Go.Proofs.YtdlkibeljkapeaaGreatDoor.Den
open Go Go.RowKit
def okD (j d : Nat) : List Res := okP (.atom 0) (.atom (j + 0)) (.atom (j + 1)) (.atom (j + 2)) (.atom (j + 3)) (.atom (j + 4)) (.atom (j + 5)) (.atom (j + 6)) (.atom (j + 7)) (.atom d)
def flD (j d : Nat) : List Res := flP (.atom 0) (.atom (j + 0)) (.atom (j + 1)) (.atom d) (.atom (j + 2))
def noneP : PV := .tup [.agg [nI 0, nI 0, nI 0, .str []], .bool false]
abbrev nextT (a b : List Res) : Fact := .st f_sql_parser_next [.box 0 0] a (.tup []) b
def onB (bm bp : Bool) : List Fact := [.st f_sql_parser_constant [.box 0 0] (okD 1 9) noneP (okD 1 9), isT (okD 1 9) "-" bm, isT (okD 1 9) "(" bp]
def upF : List Fact := [oI .geq (.atom 9) (nI 12) (.bool false), oI .add (.atom 9) (nI 1) (.atom 18), oI .sub (.atom 18) (nI 1) (.atom 9), nextT (okD 1 18) (okD 10 18)]
theorem on_k1 : okRS (exA (nI 4) (.str []) (nI 0) (nI 0) (nI 0) (.str []) (.slice 7 [eA 30])) (okD 20 9) (callF PG (fOrc noOwn (onB true false ++ (upF ++ [.st f_sql_parser_one [.box 0 0] (okD 10 18) (eA 30) (okD 20 18)]))) 20 f_sql_parser_one [.box 0 0] (okD 1 9)) = true := by kernel_rfl
theorem on_k2 : okRS (eA 30) (okD 40 9) (callF PG (fOrc noOwn (onB false true ++ (upF ++ [.st f_sql_parser_any [.box 0 0] (okD 10 18) (eA 30) (okD 20 18), isT (okD 20 9) ")" true, nextT (okD 20 9) (okD 40 9)]))) 20 f_sql_parser_one [.box 0 0] (okD 1 9)) = true := by kernel_rfl
theorem on_k3 : okRS (exA (nI 2) (.atom 3) (nI 0) (nI 0) (nI 0) (.str []) .nilslice) (okD 10 9) (callF PG (fOrc noOwn (onB false false ++ [oI .neq (.atom 1) (nI 2) (.bool false), nextT (okD 1 9) (okD 10 9)])) 20 f_sql_parser_one [.box 0 0] (okD 1 9)) = true := by kernel_rfl
theorem on_k4 : okRS (exA (nI 4) (.str []) (nI 0) (nI 0) (nI 0) (.str []) (.slice 7 [E7.zero.pv])) (flP (.atom 0) (.atom 2) (.atom 8) (.atom 9) (.atom 2)) (callF PG (fOrc noOwn (onB true false ++ [oI .geq (.atom 9) (nI 12) (.bool true)])) 20 f_sql_parser_one [.box 0 0] (okD 1 9)) = true := by kernel_rfl
theorem on_k5 : okRS (E7.zero.pv) (flP (.atom 0) (.atom 2) (.atom 8) (.atom 9) (.atom 2)) (callF PG (fOrc noOwn (onB false true ++ [oI .geq (.atom 9) (nI 12) (.bool true)])) 20 f_sql_parser_one [.box 0 0] (okD 1 9)) = true := by kernel_rfl
theorem on_k6 : okRS (exA (nI 4) (.str []) (nI 0) (nI 0) (nI 0) (.str []) (.slice 7 [eA 30])) (flD 20 9) (callF PG (fOrc noOwn (onB true false ++ (upF ++ [.st f_sql_parser_one [.box 0 0] (okD 10 18) (eA 30) (flD 20 18)]))) 20 f_sql_parser_one [.box 0 0] (okD 1 9)) = true := by kernel_rfl
theorem on_k7 : okRS (eA 30) (flD 20 9) (callF PG (fOrc noOwn (onB false true ++ (upF ++ [.st f_sql_parser_any [.box 0 0] (okD 10 18) (eA 30) (flD 20 18)]))) 20 f_sql_parser_one [.box 0 0] (okD 1 9)) = true := by kernel_rfl
def sv (x : Sg) (tt : Nat) : List PV := [nI x.k, nI x.a, .str x.w, nI x.v.1, nI x.v.2.1, nI x.v.2.2.1, .str x.v.2.2.2, nI tt]
theorem all3 {f : PV → Bool} {a b c : List PV} (h1 : a.all f = true) (h2 : b.all f = true) (h3 : c.all f = true) : (a ++ (b ++ c)).all f = true := by rw [List.all_append, List.all_append, h1, h2, h3]; rfl
def onNu (s : List UInt8) (x : Sg) (tt dp : Nat) (y : Sg) (tu : Nat) (m : List PV) (r : E7) (q : Sg) (tq : Nat) : List PV := (PV.str s :: (sv x tt ++ (nI dp :: (sv y tu ++ (nI (dp + 1 : Nat) :: nI 0 :: (m ++ [nI 0, nI 0])))))) ++ (r.L ++ ([nI 0, nI 0, nI 0] ++ sv q tq))
theorem onNu_ok {s : List UInt8} {x : Sg} {tt dp : Nat} {y : Sg} {tu : Nat} {a b c d e f g h : PV} (hm : [a, b, c, d, e, f, g, h].all (fun p => p.clean && p.pure) = true) {r : E7} (hr : r.ok = true) {q : Sg} {tq : Nat} : NuOk (nuL (onNu s x tt dp y tu [a, b, c, d, e, f, g, h] r q tq)) := by
  refine nuL_okB (all3 ?_ hr rfl)
  have e : (([a, b, c, d, e, f, g, h] ++ [nI 0, nI 0]).all fun p => p.clean && p.pure) = true := by rw [List.all_append, hm]; rfl
  exact e
def One (s : List UInt8) (x : Sg) (tt dp : Nat) (r : E7) (z : Sg) (tz : Nat) : Prop := EvS PG f_sql_parser_one [.box 0 0] (okL s x tt dp) r.pv (okL s z tz dp) ∧ r.ok = true
def Any (s : List UInt8) (x : Sg) (tt dp : Nat) (r : E7) (z : Sg) (tz : Nat) : Prop := EvS PG f_sql_parser_any [.box 0 0] (okL s x tt dp) r.pv (okL s z tz dp) ∧ r.ok = true
def OneF (s : List UInt8) (x : Sg) (tt dp : Nat) (at_ : Int) : Prop := ∃ (r : E7) (a : Int) (tz : Nat), EvS PG f_sql_parser_one [.box 0 0] (okL s x tt dp) r.pv (flL s a tz dp at_) ∧ r.ok = true
def AnyF (s : List UInt8) (x : Sg) (tt dp : Nat) (at_ : Int) : Prop := ∃ (r : E7) (a : Int) (tz : Nat), EvS PG f_sql_parser_any [.box 0 0] (okL s x tt dp) r.pv (flL s a tz dp at_) ∧ r.ok = true
section
variable {s : List UInt8} {x y z q : Sg} {tt tu tz tq dp : Nat} {r : E7}
theorem up_ok {nu : Nat → PV} (h9 : nu 9 = nI dp) (h18 : nu 18 = nI (dp + 1 : Nat)) (hd : dp < 12) (h1 : (okD 1 18).map (subRes nu) = okL s x tt (dp + 1)) (h2 : (okD 10 18).map (subRes nu) = okL s y tu (dp + 1)) (hy : Rd s tt y tu) : FactsOk PG nu upF := by
  have e1 : IntKind.i64.wrap ((dp : Int) + 1) = ((dp + 1 : Nat) : Int) := by rw [w6_id (by omega) (by omega)]; omega
  have e2 : IntKind.i64.wrap (((dp + 1 : Nat) : Int) - 1) = (dp : Int) := by rw [w6_id (by omega) (by omega)]; omega
  exact ⟨fCmp (a := dp) (b := 12) (c := false) h9 rfl rfl (by simp only [intP]; rw [decide_eq_false (by omega)]) (by decide) rfl, fInt (a := dp) (b := 1) (c := (dp + 1 : Nat)) h9 rfl h18 (by simp only [intP]; rw [e1]) (by decide) (by show (nu 18).one = true; rw [h18]; rfl),
    fInt (a := (dp + 1 : Nat)) (b := 1) (c := dp) h18 rfl h9 (by simp only [intP]; rw [e2]) (by decide) (by show (nu 9).one = true; rw [h9]; rfl), fst1 (next_ev x (dp + 1) hy) rfl h1 rfl h2 rfl, trivial⟩
theorem one_neg (hn : NoLit s x tt) (hm : isM x (kw "-") = true) (hp : isM x (kw "(") = false) (hd : dp < 12) (hy : Rd s tt y tu) (h : One s y tu (dp + 1) r z tz) : One s x tt dp (E7.un 4 r) z tz := by
  obtain ⟨h, hr⟩ := h
  refine ⟨?_, E7.un_ok hr⟩
  have hnu : NuOk (nuL (onNu s x tt dp y tu (sv z tz) r x tt)) := onNu_ok rfl hr
  have hpu := E7.pure (E7.un_ok (k := 4) hr)
  exact EvS.facts (nu := nuL (onNu s x tt dp y tu (sv z tz) r x tt)) (args := [.box 0 0]) (s := okD 1 9) (s' := okD 20 9) prog_ok hnu (okRS_eq on_k1)
    (FactsOk.append ⟨fst1 (const_none dp hn) rfl rfl rfl rfl rfl, fIs rfl hm rfl, fIs rfl hp rfl, trivial⟩ (FactsOk.append (up_ok rfl rfl hd rfl rfl hy) ⟨fst1 h rfl rfl rfl rfl rfl, trivial⟩)) rfl rfl (by rw [Bool.and_eq_true]; exact ⟨hpu, rfl⟩)
theorem one_par (hn : NoLit s x tt) (hm : isM x (kw "-") = false) (hp : isM x (kw "(") = true) (hd : dp < 12) (hy : Rd s tt y tu) (h : Any s y tu (dp + 1) r z tz) (hz : isM z (kw ")") = true) (hq : Rd s tz q tq) : One s x tt dp r q tq := by
  obtain ⟨h, hr⟩ := h
  refine ⟨?_, hr⟩
  have hnu : NuOk (nuL (onNu s x tt dp y tu (sv z tz) r q tq)) := onNu_ok rfl hr
  have hpu := E7.pure hr
  exact EvS.facts (nu := nuL (onNu s x tt dp y tu (sv z tz) r q tq)) (args := [.box 0 0]) (s := okD 1 9) (s' := okD 40 9) prog_ok hnu (okRS_eq on_k2)
    (FactsOk.append ⟨fst1 (const_none dp hn) rfl rfl rfl rfl rfl, fIs rfl hm rfl, fIs rfl hp rfl, trivial⟩ (FactsOk.append (up_ok rfl rfl hd rfl rfl hy) ⟨fst1 h rfl rfl rfl rfl rfl, fIs rfl hz rfl, fst1 (next_ev z dp hq) rfl rfl rfl rfl rfl, trivial⟩)) rfl rfl (by rw [Bool.and_eq_true]; exact ⟨hpu, rfl⟩)
theorem one_name (hn : NoLit s x tt) (hm : isM x (kw "-") = false) (hp : isM x (kw "(") = false) (hk : x.k = 2) (hy : Rd s tt y tu) : One s x tt dp (E7.col x.w) y tu := by
  refine ⟨?_, rfl⟩
  exact EvS.facts (nu := nuL (onNu s x tt dp y tu (sv x tt) E7.zero x tt)) (args := [.box 0 0]) (s := okD 1 9) (s' := okD 10 9) prog_ok (onNu_ok rfl rfl) (okRS_eq on_k3)
    (FactsOk.append ⟨fst1 (const_none dp hn) rfl rfl rfl rfl rfl, fIs rfl hm rfl, fIs rfl hp rfl, trivial⟩ ⟨fCmp (c := false) rfl rfl rfl (by rw [i64ne, hk]; rfl) (by decide) rfl, fst1 (next_ev x dp hy) rfl rfl rfl rfl rfl, trivial⟩) rfl rfl rfl
theorem one_lim (hn : NoLit s x tt) (bm : Bool) (hm : isM x (kw "-") = bm) (hp : isM x (kw "(") = !bm) (hd : 12 ≤ dp) : OneF s x tt dp x.a := by
  have hf : FactsOk PG (nuL (onNu s x tt dp x tt (sv x tt) E7.zero x tt)) (onB bm (!bm) ++ [oI .geq (.atom 9) (nI 12) (.bool true)]) :=
    FactsOk.append ⟨fst1 (const_none dp hn) rfl rfl rfl rfl rfl, fIs rfl hm rfl, fIs rfl hp rfl, trivial⟩ ⟨fCmp (a := dp) (b := 12) (c := true) rfl rfl rfl (by simp only [intP]; rw [decide_eq_true (by omega)]) (by decide) rfl, trivial⟩
  cases bm with
  | true =>
    exact ⟨E7.un 4 E7.zero, x.a, tt, EvS.facts (nu := nuL (onNu s x tt dp x tt (sv x tt) E7.zero x tt)) (args := [.box 0 0]) (s := okD 1 9) (s' := flP (.atom 0) (.atom 2) (.atom 8) (.atom 9) (.atom 2)) prog_ok (onNu_ok rfl rfl) (okRS_eq on_k4) hf rfl rfl rfl, rfl⟩
  | false =>
    exact ⟨E7.zero, x.a, tt, EvS.facts (nu := nuL (onNu s x tt dp x tt (sv x tt) E7.zero x tt)) (args := [.box 0 0]) (s := okD 1 9) (s' := flP (.atom 0) (.atom 2) (.atom 8) (.atom 9) (.atom 2)) prog_ok (onNu_ok rfl rfl) (okRS_eq on_k5) hf rfl rfl rfl, rfl⟩
theorem one_negF (hn : NoLit s x tt) (hm : isM x (kw "-") = true) (hp : isM x (kw "(") = false) (hd : dp < 12) (hy : Rd s tt y tu) {at_ : Int} (h : OneF s y tu (dp + 1) at_) : OneF s x tt dp at_ := by
  obtain ⟨r, a, tz, h, hr⟩ := h
  refine ⟨E7.un 4 r, a, tz, ?_, E7.un_ok hr⟩
  have hpu := E7.pure (E7.un_ok (k := 4) hr)
  have hnu : NuOk (nuL (onNu s x tt dp y tu [nI a, nI tz, nI at_, nI 0, nI 0, nI 0, nI 0, nI 0] r x tt)) := onNu_ok rfl hr
  exact EvS.facts (nu := nuL (onNu s x tt dp y tu [nI a, nI tz, nI at_, nI 0, nI 0, nI 0, nI 0, nI 0] r x tt)) (args := [.box 0 0]) (s := okD 1 9) (s' := flD 20 9) prog_ok hnu (okRS_eq on_k6)
    (FactsOk.append ⟨fst1 (const_none dp hn) rfl rfl rfl rfl rfl, fIs rfl hm rfl, fIs rfl hp rfl, trivial⟩ (FactsOk.append (up_ok rfl rfl hd rfl rfl hy) ⟨fst1 h rfl rfl rfl rfl rfl, trivial⟩)) rfl rfl (by rw [Bool.and_eq_true]; exact ⟨hpu, rfl⟩)
theorem one_parF (hn : NoLit s x tt) (hm : isM x (kw "-") = false) (hp : isM x (kw "(") = true) (hd : dp < 12) (hy : Rd s tt y tu) {at_ : Int} (h : AnyF s y tu (dp + 1) at_) : OneF s x tt dp at_ := by
  obtain ⟨r, a, tz, h, hr⟩ := h
  refine ⟨r, a, tz, ?_, hr⟩
  have hpu := E7.pure hr
  have hnu : NuOk (nuL (onNu s x tt dp y tu [nI a, nI tz, nI at_, nI 0, nI 0, nI 0, nI 0, nI 0] r x tt)) := onNu_ok rfl hr
  exact EvS.facts (nu := nuL (onNu s x tt dp y tu [nI a, nI tz, nI at_, nI 0, nI 0, nI 0, nI 0, nI 0] r x tt)) (args := [.box 0 0]) (s := okD 1 9) (s' := flD 20 9) prog_ok hnu (okRS_eq on_k7)
    (FactsOk.append ⟨fst1 (const_none dp hn) rfl rfl rfl rfl rfl, fIs rfl hm rfl, fIs rfl hp rfl, trivial⟩ (FactsOk.append (up_ok rfl rfl hd rfl rfl hy) ⟨fst1 h rfl rfl rfl rfl rfl, trivial⟩)) rfl rfl (by rw [Bool.and_eq_true]; exact ⟨hpu, rfl⟩)
def stops : List String := ["*", "+", "-", "=", "<>", "<", "<=", "is", "and", "or"]
theorem any_k : okRS (eA 30) (okD 20 9) (callF PG (fOrc noOwn (isT (okD 1 9) "not" false :: .st f_sql_parser_one [.box 0 0] (okD 1 9) (eA 30) (okD 20 9) :: stops.map fun m => isT (okD 20 9) m false)) 20 f_sql_parser_any [.box 0 0] (okD 1 9)) = true := by kernel_rfl
theorem any_kf : okRS (eA 30) (flD 20 9) (callF PG (fOrc noOwn [isT (okD 1 9) "not" false, .st f_sql_parser_one [.box 0 0] (okD 1 9) (eA 30) (flD 20 9)]) 20 f_sql_parser_any [.box 0 0] (okD 1 9)) = true := by kernel_rfl
theorem any_one (hn : isM x (kw "not") = false) (h : One s x tt dp r z tz) (hz : ∀ m ∈ stops, isM z (kw m) = false) : Any s x tt dp r z tz := by
  obtain ⟨h, hr⟩ := h
  refine ⟨?_, hr⟩
  have hpu := E7.pure hr
  have hnu : NuOk (nuL (onNu s x tt dp x tt (sv z tz) r x tt)) := onNu_ok rfl hr
  refine EvS.facts (nu := nuL (onNu s x tt dp x tt (sv z tz) r x tt)) (args := [.box 0 0]) (s := okD 1 9) (s' := okD 20 9) prog_ok hnu (okRS_eq any_k) ⟨fIs rfl hn rfl, fst1 h rfl rfl rfl rfl rfl, FactsOk.of fun f hf => ?_⟩ rfl rfl (by rw [Bool.and_eq_true]; exact ⟨hpu, rfl⟩)
  obtain ⟨m, hm, rfl⟩ := List.mem_map.1 hf
  exact fIs rfl (hz m hm) rfl
theorem any_oneF (hn : isM x (kw "not") = false) {at_ : Int} (h : OneF s x tt dp at_) : AnyF s x tt dp at_ := by
  obtain ⟨r, a, tz, h, hr⟩ := h
  refine ⟨r, a, tz, ?_, hr⟩
  have hpu := E7.pure hr
  have hnu : NuOk (nuL (onNu s x tt dp x tt [nI a, nI tz, nI at_, nI 0, nI 0, nI 0, nI 0, nI 0] r x tt)) := onNu_ok rfl hr
  exact EvS.facts (nu := nuL (onNu s x tt dp x tt [nI a, nI tz, nI at_, nI 0, nI 0, nI 0, nI 0, nI 0] r x tt)) (args := [.box 0 0]) (s := okD 1 9) (s' := flD 20 9) prog_ok hnu (okRS_eq any_kf) ⟨fIs rfl hn rfl, fst1 h rfl rfl rfl rfl rfl, trivial⟩ rfl rfl (by rw [Bool.and_eq_true]; exact ⟨hpu, rfl⟩)
end
end Go.Proofs.YtdlkibeljkapeaaGreatDoor.Den
namespace Go.Proofs.YtdlkibeljkapeaaGreatDoor.Den
open Go Go.RowKit
def headNot (p : UInt8 → Bool) : List UInt8 → Bool
  | [] => true
  | c :: _ => !p c
theorem takeWhile_front {p : UInt8 → Bool} : ∀ {g t : List UInt8}, g.all p = true → headNot p t = true → (g ++ t).takeWhile p = g
  | [], [], _, _ => rfl
  | [], c :: t, _, h => by
    simp only [headNot, Bool.not_eq_true'] at h
    simp [h]
  | c :: g, t, hg, h => by
    simp only [List.all_cons, Bool.and_eq_true] at hg
    simp only [List.cons_append, List.takeWhile_cons, hg.1, if_true]
    rw [takeWhile_front hg.2 h]
theorem pastN_of {p : UInt8 → Bool} {s : List UInt8} {i : Nat} {g t : List UInt8} (h : s.drop i = g ++ t) (hg : g.all p = true) (ht : headNot p t = true) : pastN p s i = i + g.length := by
  unfold pastN
  rw [h, takeWhile_front hg ht]
theorem drop_more {s : List UInt8} {i : Nat} {g t : List UInt8} (h : s.drop i = g ++ t) : s.drop (i + g.length) = t := by
  rw [← List.drop_drop, h]; simp
theorem drop_le {s : List UInt8} {i : Nat} {c : UInt8} {t : List UInt8} (h : s.drop i = c :: t) : i < s.length ∧ s[i]? = some c := by
  have hl : i < s.length := by
    rcases Nat.lt_or_ge i s.length with hl | hl
    · exact hl
    · rw [List.drop_eq_nil_of_le hl] at h; cases h
  refine ⟨hl, ?_⟩
  rw [List.drop_eq_getElem_cons hl] at h
  cases h
  exact List.getElem?_eq_getElem hl
def wordSg (w : List UInt8) (a : Nat) : Sg := ⟨if keysL.contains w then 1 else 2, a, w, v0, 0⟩
def markSg (m a : Nat) : Sg := ⟨5, a, mkW m, v0, 0⟩
def endSg (a : Nat) : Sg := ⟨0, a, [], v0, 0⟩
section
variable {s : List UInt8} {i : Nat} {g : List UInt8}
theorem inner_notBlank {c : UInt8} (h : isSmall c = true) : isBlank c = false := by
  simp only [isSmall, Bool.and_eq_true, decide_eq_true_eq] at h
  simp only [isBlank, Bool.or_eq_false_iff, beq_eq_false_iff_ne]
  refine ⟨fun e => ?_, fun e => ?_⟩ <;> subst e <;> simp at h
theorem rd_word (hs : s.length ≤ 9223372036854775805) (hi : i ≤ s.length) {c : UInt8} {w rest : List UInt8} (h : s.drop i = g ++ ((c :: w) ++ rest)) (hg : g.all isBlank = true) (hc : isSmall c = true) (hw : w.all isInner = true) (hr : headNot isInner rest = true)
    (hx : c = 120 → w = [] → rest[0]? ≠ some 39) (hl : w.length ≤ 11) : Rd s i (wordSg (c :: w) (i + g.length)) (i + g.length + (w.length + 1)) := by
  have hci : isInner c = true := by simp [isInner, hc]
  have hall : (c :: w).all isInner = true := by simp [hci, hw]
  have hp := pastN_of h hg (by show (!isBlank c) = true; rw [inner_notBlank hc]; rfl)
  have hd := drop_more h
  obtain ⟨hil, hci'⟩ := drop_le (show s.drop (i + g.length) = c :: (w ++ rest) from hd)
  have hwd : wordAt s (i + g.length) = c :: w := by
    unfold wordAt
    rw [hd, takeWhile_front hall hr]
  have hp2 := pastN_of hd hall hr
  have hl2 := letters_ev (s := s) (by omega) (i + g.length) (by omega)
  rw [hwd, hp2, if_neg (show ¬ 12 < (c :: w).length by rw [List.length_cons]; omega)] at hl2
  refine ⟨?_, rfl, ?_⟩
  · have := read_ev (s := s) (by omega) i hi (c := c) (x := wordSg (c :: w) (i + g.length)) (te := i + g.length + (w.length + 1)) (by rw [hp]; exact hci') (fun e => ?_) (.inl ⟨hc, by rw [hp]; exact hl2⟩)
    · exact this
    · rw [hp]
      have hd2 : s.drop (i + g.length + 1) = w ++ rest := by
        have := drop_more (g := [c]) (t := w ++ rest) hd
        exact this
      have he : s[i + g.length + 1]? = (w ++ rest)[0]? := by rw [← hd2]; simp
      rw [he]
      cases w with
      | nil => exact hx e rfl
      | cons d w =>
        intro h39
        simp at h39
        subst h39
        simp only [List.all_cons, Bool.and_eq_true] at hw
        exact absurd hw.1 (by decide)
  · show (if keysL.contains (c :: w) then (1 : Int) else 2) ≠ 6
    split <;> decide
theorem rd_end (hs : s.length ≤ 9223372036854775806) (hi : i ≤ s.length) (h : s.drop i = g) (hg : g.all isBlank = true) : Rd s i (endSg s.length) s.length := by
  have hp := pastN_of (p := isBlank) (t := []) (g := g) (by rw [h]; simp) hg rfl
  have hl : i + g.length = s.length := by rw [← h, List.length_drop]; omega
  exact ⟨read_end hs i hi (by rw [hp, hl]), rfl, (by show (0 : Int) ≠ 6; decide)⟩
theorem rd_mark (hs : s.length ≤ 9223372036854775805) (hi : i ≤ s.length) (m : Nat) (hm11 : m < 11) {rest : List UInt8} (h : s.drop i = g ++ (mkW m ++ rest)) (hg : g.all isBlank = true)
    (hm : ∀ j, j ≤ m → (mkW j).isPrefixOf (mkW m ++ rest) = Nat.beq j m) : Rd s i (markSg m (i + g.length)) (i + g.length + (if m < 2 then 2 else 1)) := by
  have hk : ∀ m, m < 11 → ∃ c t, mkW m = c :: t ∧ isBlank c = false ∧ isSmall c = false ∧ isDigit c = false ∧ c ≠ 39 := by
    intro m hm
    have : ((List.range 11).all fun m => match mkW m with | c :: _ => !isBlank c && (!isSmall c && (!isDigit c && c != 39)) | [] => false) = true := by decide
    have := List.all_eq_true.1 this m (by rw [List.mem_range]; exact hm)
    cases hq : mkW m with
    | nil => rw [hq] at this; cases this
    | cons c t =>
      rw [hq] at this
      simp only [Bool.and_eq_true, Bool.not_eq_true', bne_iff_ne] at this
      exact ⟨c, t, rfl, this.1, this.2.1, this.2.2.1, this.2.2.2⟩
  obtain ⟨c, t, hc, h1, h2, h3, h4⟩ := hk m hm11
  have hp := pastN_of h hg (by rw [hc]; show (!isBlank c) = true; rw [h1]; rfl)
  have hd := drop_more h
  obtain ⟨hil, hci'⟩ := drop_le (show s.drop (i + g.length) = c :: (t ++ rest) by rw [hd, hc]; rfl)
  have := read_mark hs i hi (c := c) (by rw [hp]; exact hci') h2 h3 h4 m hm11 (fun j hj => by rw [hp, hd]; exact hm j hj)
  rw [hp] at this
  exact ⟨this, rfl, (by show (5 : Int) ≠ 6; decide)⟩
theorem rd_mark' (hs : s.length ≤ 9223372036854775805) (hi : i ≤ s.length) (m : Nat) (hm11 : m < 11) (hm7 : m ≠ 7) {rest : List UInt8} (h : s.drop i = g ++ (mkW m ++ rest)) (hg : g.all isBlank = true) : Rd s i (markSg m (i + g.length)) (i + g.length + (if m < 2 then 2 else 1)) := by
  refine rd_mark hs hi m hm11 h hg (fun j hj => ?_)
  have hj11 : j < 11 := by omega
  clear h
  match m, j, hm11, hm7, hj with
  | 0, 0, _, _, _ => rfl
  | 1, 0, _, _, _ | 1, 1, _, _, _ => rfl
  | 2, 0, _, _, _ | 2, 1, _, _, _ | 2, 2, _, _, _ => rfl
  | 3, 0, _, _, _ | 3, 1, _, _, _ | 3, 2, _, _, _ | 3, 3, _, _, _ => rfl
  | 4, 0, _, _, _ | 4, 1, _, _, _ | 4, 2, _, _, _ | 4, 3, _, _, _ | 4, 4, _, _, _ => rfl
  | 5, 0, _, _, _ | 5, 1, _, _, _ | 5, 2, _, _, _ | 5, 3, _, _, _ | 5, 4, _, _, _ | 5, 5, _, _, _ => rfl
  | 6, 0, _, _, _ | 6, 1, _, _, _ | 6, 2, _, _, _ | 6, 3, _, _, _ | 6, 4, _, _, _ | 6, 5, _, _, _ | 6, 6, _, _, _ => rfl
  | 8, 0, _, _, _ | 8, 1, _, _, _ | 8, 2, _, _, _ | 8, 3, _, _, _ | 8, 4, _, _, _ | 8, 5, _, _, _ | 8, 6, _, _, _ | 8, 7, _, _, _ | 8, 8, _, _, _ => rfl
  | 9, 0, _, _, _ | 9, 1, _, _, _ | 9, 2, _, _, _ | 9, 3, _, _, _ | 9, 4, _, _, _ | 9, 5, _, _, _ | 9, 6, _, _, _ | 9, 7, _, _, _ | 9, 8, _, _, _ | 9, 9, _, _, _ => rfl
  | 10, 0, _, _, _ | 10, 1, _, _, _ | 10, 2, _, _, _ | 10, 3, _, _, _ | 10, 4, _, _, _ | 10, 5, _, _, _ | 10, 6, _, _, _ | 10, 7, _, _, _ | 10, 8, _, _, _ | 10, 9, _, _, _ | 10, 10, _, _, _ => rfl
end
end Go.Proofs.YtdlkibeljkapeaaGreatDoor.Den
namespace Go.Proofs.YtdlkibeljkapeaaGreatDoor.Den
open Go Go.RowKit
def opn : List Bool → List UInt8
  | [] => []
  | true :: l => 40 :: opn l
  | false :: l => 45 :: 32 :: opn l
def cnt (l : List Bool) : Nat := l.count true
def Lies (s : List UInt8) (i : Nat) (g : List UInt8) (l : List Bool) (m : Nat) : Prop := i ≤ s.length ∧ g.all isBlank = true ∧ s.drop i = g ++ (opn l ++ (120 :: List.replicate (cnt l + m) 41))
def fst : List Bool → Nat → Sg
  | [], a => wordSg [120] a
  | true :: _, a => markSg 2 a
  | false :: _, a => markSg 9 a
def Aft (s : List UInt8) (z : Sg) (tz m : Nat) : Prop := tz ≤ s.length ∧ ((m = 0 ∧ z = endSg s.length ∧ tz = s.length) ∨ ∃ m' a, m = m' + 1 ∧ z = markSg 3 a ∧ s.drop tz = List.replicate m' 41)
section
variable {s : List UInt8} (hs : s.length ≤ 9223372036854775805)
include hs
theorem aft_of {j m : Nat} (hj : j ≤ s.length) (h : s.drop j = List.replicate m 41) : ∃ z tz, Rd s j z tz ∧ Aft s z tz m := by
  cases m with
  | zero => exact ⟨_, _, rd_end (by omega) hj h rfl, Nat.le_refl _, .inl ⟨rfl, rfl, rfl⟩⟩
  | succ m =>
    have hd : s.drop j = [] ++ (mkW 3 ++ List.replicate m 41) := by rw [h]; rfl
    have h1 := rd_mark' hs hj 3 (by decide) (by decide) hd rfl
    have h2 := drop_more (g := mkW 3) (by rw [← drop_more hd]; rfl : s.drop (j + 0) = _)
    have hl : j < s.length := (drop_le (c := 41) (t := List.replicate m 41) (by rw [h]; rfl)).1
    exact ⟨_, _, h1, by show j + 0 + 1 ≤ _; omega, .inr ⟨m, _, rfl, rfl, h2⟩⟩
theorem fst_rd {i : Nat} {g : List UInt8} {l : List Bool} {m : Nat} (h : Lies s i g l m) : ∃ tu, Rd s i (fst l (i + g.length)) tu ∧ tu = i + g.length + 1 ∧ (match l with
    | [] => tu ≤ s.length ∧ s.drop tu = List.replicate m 41
    | true :: l => Lies s tu [] l (m + 1)
    | false :: l => Lies s tu [32] l m) := by
  obtain ⟨hi, hg, hd⟩ := h
  have hd1 := drop_more hd
  match l, hd, hd1 with
  | [], hd, hd1 =>
    have hd' : s.drop i = g ++ (([120] : List UInt8) ++ List.replicate m 41) := by rw [hd]; simp [opn, cnt]
    have hr : headNot isInner (List.replicate m 41) = true := by cases m with | zero => rfl | succ m => rfl
    have h1 := rd_word hs hi (c := 120) (w := []) hd' hg rfl rfl hr (fun _ _ => by cases m with | zero => simp | succ m => simp [List.replicate_succ]) (by simp)
    have hd2 := drop_more hd'
    have hl := (drop_le (c := 120) (t := List.replicate m 41) hd2).1
    exact ⟨_, h1, rfl, by show i + g.length + 1 ≤ _; omega, drop_more (g := [120]) hd2⟩
  | true :: l, hd, hd1 =>
    have hd' : s.drop i = g ++ (mkW 2 ++ (opn l ++ (120 :: List.replicate (cnt l + (m + 1)) 41))) := by
      rw [hd]
      have : cnt (true :: l) + m = cnt l + (m + 1) := by simp [cnt]; omega
      rw [this]; rfl
    have h1 := rd_mark' hs hi 2 (by decide) (by decide) hd' hg
    have hd2 := drop_more hd'
    have hl := (drop_le (c := 40) (t := opn l ++ (120 :: List.replicate (cnt l + (m + 1)) 41)) hd2).1
    exact ⟨_, h1, rfl, by show i + g.length + 1 ≤ _; omega, rfl, by have := drop_more (g := mkW 2) hd2; rw [List.nil_append]; exact this⟩
  | false :: l, hd, hd1 =>
    have hd' : s.drop i = g ++ (mkW 9 ++ (([32] : List UInt8) ++ (opn l ++ (120 :: List.replicate (cnt l + m) 41)))) := by
      rw [hd]
      have : cnt (false :: l) + m = cnt l + m := by simp [cnt]
      rw [this]; rfl
    have h1 := rd_mark' hs hi 9 (by decide) (by decide) hd' hg
    have hd2 := drop_more hd'
    have hl := (drop_le (c := 45) (t := ([32] : List UInt8) ++ (opn l ++ (120 :: List.replicate (cnt l + m) 41))) hd2).1
    exact ⟨_, h1, rfl, by show i + g.length + 1 ≤ _; omega, rfl, drop_more (g := mkW 9) hd2⟩
omit hs in
theorem fst_k (l : List Bool) (a : Nat) : (fst l a).k ≠ 4 ∧ (fst l a).k ≠ 3 ∧ isM (fst l a) (kw "true") = false ∧ isM (fst l a) (kw "false") = false ∧ isM (fst l a) (kw "null") = false ∧ isM (fst l a) (kw "not") = false := by
  match l with
  | [] => exact ⟨by show (2 : Int) ≠ 4; decide, by show (2 : Int) ≠ 3; decide, rfl, rfl, rfl, rfl⟩
  | true :: l => exact ⟨by show (5 : Int) ≠ 4; decide, by show (5 : Int) ≠ 3; decide, rfl, rfl, rfl, rfl⟩
  | false :: l => exact ⟨by show (5 : Int) ≠ 4; decide, by show (5 : Int) ≠ 3; decide, rfl, rfl, rfl, rfl⟩
theorem fst_lit {i : Nat} {g : List UInt8} {l : List Bool} {m : Nat} (h : Lies s i g l m) {tu : Nat} (ht : tu = i + g.length + 1) : NoLit s (fst l (i + g.length)) tu := by
  obtain ⟨tu', h1, h2, h3⟩ := fst_rd hs h
  have hk := fst_k l (i + g.length)
  refine ⟨hk.1, hk.2.1, hk.2.2.1, hk.2.2.2.1, hk.2.2.2.2.1, fun hm => ?_⟩
  cases l with
  | nil => cases hm
  | cons b l =>
    cases b with
    | true => cases hm
    | false =>
      have h3' : Lies s tu' [32] l m := h3
      obtain ⟨tv, h4, _, _⟩ := fst_rd hs h3'
      rw [ht, ← h2]
      exact ⟨_, tv, h4, (fst_k l _).2.1⟩
omit hs in
theorem aft_stops {z : Sg} {tz m : Nat} (h : Aft s z tz m) : ∀ w ∈ stops, isM z (kw w) = false := by
  obtain ⟨_, ⟨_, rfl, _⟩ | ⟨m', a, _, rfl, _⟩⟩ := h
  · intro w _; rfl
  · intro w hw
    simp only [stops, List.mem_cons, List.not_mem_nil, or_false] at hw
    rcases hw with rfl | rfl | rfl | rfl | rfl | rfl | rfl | rfl | rfl | rfl <;> rfl
theorem deep_one : ∀ (l : List Bool) {i : Nat} {g : List UInt8} {m dp tu : Nat}, Lies s i g l m → dp + l.length ≤ 12 → tu = i + g.length + 1 → ∃ r z tz, One s (fst l (i + g.length)) tu dp r z tz ∧ Aft s z tz m
  | [], i, g, m, dp, tu, h, _, ht => by
    obtain ⟨tu', h1, h2, h3, h4⟩ := fst_rd hs h
    subst ht
    rw [← h2]
    obtain ⟨z, tz, h5, h6⟩ := aft_of hs h3 h4
    exact ⟨_, z, tz, one_name (fst_lit hs h h2) rfl rfl rfl h5, h6⟩
  | true :: l, i, g, m, dp, tu, h, hd, ht => by
    obtain ⟨tu', h1, h2, h3⟩ := fst_rd hs h
    subst ht
    rw [← h2]
    have h3' : Lies s tu' [] l (m + 1) := h3
    obtain ⟨tv, h4, h5, _⟩ := fst_rd hs h3'
    obtain ⟨r, z, tz, h6, h7⟩ := deep_one l (dp := dp + 1) h3' (by simp at hd; omega) h5
    have h8 := any_one (fst_k l _).2.2.2.2.2 h6 (aft_stops h7)
    obtain ⟨htz, ⟨hm, _⟩ | ⟨m', a, hm, rfl, hz⟩⟩ := h7
    · omega
    · obtain rfl : m' = m := by omega
      obtain ⟨q, tq, h9, h10⟩ := aft_of hs htz hz
      exact ⟨r, q, tq, one_par (fst_lit hs h h2) rfl rfl (by simp at hd; omega) h4 h8 rfl h9, h10⟩
  | false :: l, i, g, m, dp, tu, h, hd, ht => by
    obtain ⟨tu', h1, h2, h3⟩ := fst_rd hs h
    subst ht
    rw [← h2]
    have h3' : Lies s tu' [32] l m := h3
    obtain ⟨tv, h4, h5, _⟩ := fst_rd hs h3'
    obtain ⟨r, z, tz, h6, h7⟩ := deep_one l (dp := dp + 1) h3' (by simp at hd; omega) h5
    exact ⟨_, z, tz, one_neg (fst_lit hs h h2) rfl rfl (by simp at hd; omega) h4 h6, h7⟩
theorem deep_oneF : ∀ (l : List Bool) {i : Nat} {g : List UInt8} {m dp tu : Nat}, Lies s i g l m → dp ≤ 12 → 12 < dp + l.length → tu = i + g.length + 1 → ∃ at_ : Nat, OneF s (fst l (i + g.length)) tu dp at_ ∧ i + g.length + (12 - dp) ≤ at_ ∧ at_ ≤ i + g.length + 2 * (12 - dp)
  | [], i, g, m, dp, tu, h, hd, hd2, _ => by simp at hd2; omega
  | true :: l, i, g, m, dp, tu, h, hd, hd2, ht => by
    obtain ⟨tu', h1, h2, h3⟩ := fst_rd hs h
    subst ht
    rw [← h2]
    by_cases hdp : dp < 12
    · have h3' : Lies s tu' [] l (m + 1) := h3
      obtain ⟨tv, h4, h5, _⟩ := fst_rd hs h3'
      obtain ⟨a, h6, h7, h8⟩ := deep_oneF l (dp := dp + 1) h3' (by omega) (by simp at hd2; omega) h5
      simp only [List.length_nil] at h7 h8
      exact ⟨a, one_parF (fst_lit hs h h2) rfl rfl hdp h4 (any_oneF (fst_k l _).2.2.2.2.2 h6), by omega, by omega⟩
    · exact ⟨i + g.length, one_lim (fst_lit hs h h2) false rfl rfl (by omega), by omega, by omega⟩
  | false :: l, i, g, m, dp, tu, h, hd, hd2, ht => by
    obtain ⟨tu', h1, h2, h3⟩ := fst_rd hs h
    subst ht
    rw [← h2]
    by_cases hdp : dp < 12
    · have h3' : Lies s tu' [32] l m := h3
      obtain ⟨tv, h4, h5, _⟩ := fst_rd hs h3'
      obtain ⟨a, h6, h7, h8⟩ := deep_oneF l (dp := dp + 1) h3' (by omega) (by simp at hd2; omega) h5
      simp only [List.length_cons, List.length_nil] at h7 h8
      exact ⟨a, one_negF (fst_lit hs h h2) rfl rfl hdp h4 h6, by omega, by omega⟩
    · exact ⟨i + g.length, one_lim (fst_lit hs h h2) true rfl rfl (by omega), by omega, by omega⟩
end
end Go.Proofs.YtdlkibeljkapeaaGreatDoor.Den
namespace Go.Proofs.YtdlkibeljkapeaaGreatDoor.Den
open Go Go.RowKit
theorem w3_kt : callF PG (fOrc (fun _ _ => false) [.op (.bin .rem ty_int) [.atom 0, .atom 1] (.atom 2), .op (.bin .lss ty_int) [.atom 2, .int .i64 0] (.bool true), .op (.bin .add ty_int) [.atom 2, .atom 1] (.atom 3)]) 5 f_l3_within [.atom 0, .atom 1] [] = some (.atom 3, []) := by kernel_rfl
theorem w3_kf : callF PG (fOrc (fun _ _ => false) [.op (.bin .rem ty_int) [.atom 0, .atom 1] (.atom 2), .op (.bin .lss ty_int) [.atom 2, .int .i64 0] (.bool false)]) 5 f_l3_within [.atom 0, .atom 1] [] = some (.atom 2, []) := by kernel_rfl
theorem within3_ev (a n : Int) (hn : n ≠ 0) : Ev PG f_l3_within [.int .i64 a, .int .i64 n] (.int .i64 (wthn a n)) := by
  by_cases hc : a.tmod n < 0
  · have e : wthn a n = IntKind.i64.wrap (a.tmod n + n) := if_pos hc
    rw [e]
    exact Ev.facts prog_ok (nuL_okB (l := [.int .i64 a, .int .i64 n, .int .i64 (a.tmod n), .int .i64 (IntKind.i64.wrap (a.tmod n + n))]) rfl)
      w3_kt ⟨fInt rfl rfl rfl (by simp [intP, hn]) (by decide) rfl, fCmp rfl rfl rfl (by simp [intP, hc]) (by decide) rfl, fInt rfl rfl rfl rfl (by decide) rfl, trivial⟩ rfl rfl
  · have e : wthn a n = a.tmod n := if_neg hc
    rw [e]
    exact Ev.facts prog_ok (nuL_okB (l := [.int .i64 a, .int .i64 n, .int .i64 (a.tmod n)]) rfl)
      w3_kf ⟨fInt rfl rfl rfl (by simp [intP, hn]) (by decide) rfl, fCmp rfl rfl rfl (by simp [intP, hc]) (by decide) rfl, trivial⟩ rfl rfl
theorem slLen_ok {mv : PV} {xs : List Int} (hmv : mv = .slice 1 (xs.map (.int .i64)) ∨ (mv = .nilslice ∧ xs = [])) : lenP PG ty_sl_int mv = some (nI xs.length) := by
  have hu : PG.underlying ty_sl_int = some (.slice ty_int) := by kernel_rfl
  unfold lenP
  rw [hu]
  rcases hmv with rfl | ⟨rfl, rfl⟩
  · simp
  · rfl
theorem slIx_ok {mv : PV} {xs : List Int} (hmv : mv = .slice 1 (xs.map (.int .i64)) ∨ (mv = .nilslice ∧ xs = [])) {i : Nat} (hi : i < xs.length) : indexAddrP PG ty_sl_int mv (nI i) = some (.ref [nI (xs.getD i 0)]) := by
  have hu : PG.underlying ty_sl_int = some (.slice ty_int) := by kernel_rfl
  have hs : sizeP PG ty_int = some 1 := by kernel_rfl
  unfold indexAddrP
  rw [hu]
  rcases hmv with rfl | ⟨rfl, rfl⟩
  · have : (xs.map (PV.int .i64))[((i : Nat) : Int).toNat]? = some (nI (xs.getD i 0)) := by
      simp [hi]
    simp only [hs, true_and]
    rw [if_pos (by omega), this]
    rfl
  · simp at hi
theorem fLen {nu : Nat → PV} {j k : Nat} {mv : PV} {xs : List Int} (hmv : mv = .slice 1 (xs.map (.int .i64)) ∨ (mv = .nilslice ∧ xs = [])) (h1 : nu j = mv) (h2 : nu k = nI xs.length) : FactOk PG nu (.op (.len ty_sl_int) [.atom j] (.atom k)) := by
  refine ⟨?_, ?_⟩
  · show lenP PG ty_sl_int (nu j) = some (nu k)
    rw [h1, h2]; exact slLen_ok hmv
  · show (nu k).one = true
    rw [h2]; rfl
theorem fIx {nu : Nat → PV} {j k i : Nat} {ip : PV} {mv : PV} {xs : List Int} (hmv : mv = .slice 1 (xs.map (.int .i64)) ∨ (mv = .nilslice ∧ xs = [])) (hi : i < xs.length) (h1 : nu j = mv) (h3 : subD nu ip = nI i) (h2 : nu k = nI (xs.getD i 0)) : FactOk PG nu (.op (.ix ty_sl_int) [.atom j, ip] (.ref [.atom k])) := by
  refine ⟨?_, rfl⟩
  show indexAddrP PG ty_sl_int (nu j) (subD nu ip) = some (.ref [nu k])
  rw [h1, h2, h3]; exact slIx_ok hmv hi
theorem pureL_of {l : List PV} (h : ∀ p ∈ l, p.pure = true) : PV.pureL l = true := by
  induction l with
  | nil => rfl
  | cons p l ih =>
    simp only [PV.pureL, Bool.and_eq_true]
    exact ⟨h p (by simp), ih fun q hq => h q (by simp [hq])⟩
theorem ints_good {mv : PV} {xs : List Int} (hmv : mv = .slice 1 (xs.map (.int .i64)) ∨ (mv = .nilslice ∧ xs = [])) : (mv.clean && mv.pure) = true ∧ mv.one = true := by
  rcases hmv with rfl | ⟨rfl, _⟩
  · refine ⟨?_, rfl⟩
    simp only [PV.clean, Bool.true_and]
    show PV.pureL _ = true
    exact pureL_of fun p hp => by obtain ⟨x, _, rfl⟩ := List.mem_map.1 hp; rfl
  · exact ⟨rfl, rfl⟩
def knF : List Fact := kF ++ [cutF (bs "5"), itoaF (-5, [45, 53])]
theorem known_k : okR (.bool true) (callF PG (fOrc noOwn knF) 70 f_l3_known [] []) = true := by kernel_rfl
theorem itoa5 : ([45, 53] : List UInt8) = Lib.itoa (-5) := by kernel_rfl
theorem known_ev : Ev PG f_l3_known [] (.bool true) :=
  Ev.facts (nu := nuL []) (args := []) prog_ok (nuL_okB rfl) (okR_eq known_k) ⟨fprim keys_ev rfl rfl rfl, fprim marks_ev rfl rfl rfl, fprim (cut_ev (bs "5") [46] (by decide)) rfl rfl rfl, fprim (itoa_ev (-5) (by decide)) rfl (congrArg PV.str itoa5) rfl, trivial⟩ rfl rfl
end Go.Proofs.YtdlkibeljkapeaaGreatDoor.Den
namespace Go.Proofs.YtdlkibeljkapeaaGreatDoor.Den
open Go Go.RowKit
def bit (xs : List Int) (i : Nat) : Bool := if i < xs.length then wthn (xs.getD i 0) 2 == 0 else true
def syms (xs : List Int) (n : Nat) : List Bool := (List.range n).map (bit xs)
theorem syms_succ (xs : List Int) (n : Nat) : syms xs (n + 1) = syms xs n ++ [bit xs n] := by simp [syms, List.range_succ]
theorem opn_append : ∀ (l m : List Bool), opn (l ++ m) = opn l ++ opn m
  | [], m => rfl
  | true :: l, m => by simp [opn, opn_append l m]
  | false :: l, m => by simp [opn, opn_append l m]
theorem opn_len : ∀ l : List Bool, (opn l).length ≤ 2 * l.length
  | [] => by simp [opn]
  | true :: l => by have := opn_len l; simp [opn]; omega
  | false :: l => by have := opn_len l; simp [opn]; omega
theorem cnt_le (l : List Bool) : cnt l ≤ l.length := List.count_le_length
def sdT : List (Nat × PV) := [(1, .atom 0), (5, .atom 1), (6, .atom 2), (7, .atom 3), (8, .atom 4)]
def sdA (c : Bool) : List Fact := [oI .lss (.atom 4) (.atom 1) (.bool c)]
def sdL (c : Bool) : List Fact := [.op (.len ty_sl_int) [.atom 0] (.atom 5), oI .lss (.atom 4) (.atom 5) (.bool c)]
def sdX (q : Bool) : List Fact := [.op (.ix ty_sl_int) [.atom 0, .atom 4] (.ref [.atom 6]), .prim f_l3_within [.atom 6, nI 2] (.atom 7), oI .eql (.atom 7) (nI 0) (.bool q)]
def sdE : Bool → List Fact
  | true => [.op (.bin .add ty_string) [.atom 2, .str [40]] (.atom 8), .op (.bin .add ty_string) [.str [41], .atom 3] (.atom 9), oI .add (.atom 4) (nI 1) (.atom 10)]
  | false => [.op (.bin .add ty_string) [.atom 2, .str [45, 32]] (.atom 8), oI .add (.atom 4) (nI 1) (.atom 10)]
def sdT' (q : Bool) : List (Nat × PV) := [(1, .atom 0), (5, .atom 1), (6, .atom 8), (7, .atom (if q then 9 else 3)), (8, .atom 10)]
noncomputable abbrev sdRun (fs : List Fact) : Option (Ex × St) := execN PG (fOrc noOwn fs) (callF PG (fOrc noOwn fs) 5) ((fOrc noOwn fs).loop f_l3_SqlDeep) 5 3 (loopAt PG f_l3_SqlDeep 6) ⟨sdT, []⟩
theorem sd_lone : loneB PG f_l3_SqlDeep 6 = true := by kernel_rfl
theorem sd_out : runsB (sdRun (sdA false)) (.exit 0) [(5, .atom 1), (6, .atom 2), (7, .atom 3)] [] = true := by kernel_rfl
theorem sd_ge : runsB (sdRun (sdA true ++ (sdL false ++ sdE true))) .normal (sdT' true) [] = true := by kernel_rfl
theorem sd_lt : bl (fun q => runsB (sdRun (sdA true ++ (sdL true ++ (sdX q ++ sdE q)))) .normal (sdT' q) []) = true := by kernel_rfl
def selB : List UInt8 := [115, 101, 108, 101, 99, 116, 32, 42, 32, 102, 114, 111, 109, 32, 116, 32, 119, 104, 101, 114, 101]
abbrev rdT (i : Nat) (k : Int) (a : Nat) (w : String) (j : Nat) : Fact := .prim f_sql_read [.atom 0, nI i] (.tup [sgP k a (kw w) 0, nI j])
def selF0 : List Fact := [.op (.len ty_string) [.atom 0] (.atom 1), oI .gtr (.atom 1) (nI 4000) (.bool false)]
def selF : List Fact := [rdT 0 1 0 "select" 6, rdT 6 5 7 "*" 8, rdT 8 1 9 "from" 13, rdT 13 2 14 "t" 15, rdT 15 1 16 "where" 21,
  .prim f_sql_read [.atom 0, nI 21] (.tup [sgA (.atom 10) (.atom 11) (.atom 12) (.atom 13) (.atom 14) (.atom 15) (.atom 16) (nI 0), .atom 17]), oI .eql (.atom 10) (nI 6) (.bool false)]
def selY : List Res := okP (.atom 0) (.atom 10) (.atom 11) (.atom 12) (.atom 13) (.atom 14) (.atom 15) (.atom 16) (.atom 17) (nI 0)
def selF1 : List Fact := [.st f_sql_parser_any [.box 0 0] selY (eA 30) (okP (.atom 0) (nI 0) (.atom 21) (.str []) (nI 0) (nI 0) (nI 0) (.str []) (.atom 27) (nI 0))]
def selF2 : List Fact := [.st f_sql_parser_any [.box 0 0] selY (eA 30) (flP (.atom 0) (.atom 20) (.atom 21) (nI 0) (.atom 22))]
def tableZ : List PV := [.str [], .nilslice, nI 0, .nilslice, nI 0, .str [], nI 0, nI 0, nI 0, .str [], .nilslice, .nilslice]
def stmtP (k : PV) (T : List PV) (nm col dst row : PV) (e w : List PV) : PV := .agg (k :: (T ++ ([nm, col, dst, row] ++ (e ++ w))))
def eaL (j : Nat) : List PV := [.atom (j + 0), .atom (j + 1), .atom (j + 2), .atom (j + 3), .atom (j + 4), .atom (j + 5), .atom (j + 6)]
theorem sel_k1 : okR (.tup [stmtP (nI 7) tableZ (.str [116]) (.str []) (.str []) .nilslice E7.zero.L (eaL 30), nI 0, nI 0]) (callF PG (fOrc noOwn (selF0 ++ (selF ++ selF1))) 30 f_sql_Parse [.atom 0] []) = true := by kernel_rfl
theorem sel_k2 : okR (.tup [stmtP (nI 0) tableZ (.str []) (.str []) (.str []) .nilslice E7.zero.L E7.zero.L, .atom 22, nI 11]) (callF PG (fOrc noOwn (selF0 ++ (selF ++ selF2))) 30 f_sql_Parse [.atom 0] []) = true := by kernel_rfl
end Go.Proofs.YtdlkibeljkapeaaGreatDoor.Den
namespace Go.Proofs.YtdlkibeljkapeaaGreatDoor.Den
open Go Go.RowKit
section
variable {xs : List Int} {mv : PV}
def sdNu (mv : PV) (xs : List Int) (k i : Nat) (a b a' b' : List UInt8) : List PV := [mv, nI k, .str a, .str b, nI i, nI xs.length, nI (xs.getD i 0), nI (wthn (xs.getD i 0) 2), .str a', .str b', nI (i + 1 : Nat)]
def clo (l : List Bool) : List UInt8 := List.replicate (cnt l) 41
theorem clo_t (l : List Bool) : clo (l ++ [true]) = 41 :: clo l := by simp [clo, cnt, List.count_append, List.replicate_succ]
theorem clo_f (l : List Bool) : clo (l ++ [false]) = clo l := by simp [clo, cnt, List.count_append]
theorem sd_loop (hmv : mv = .slice 1 (xs.map (.int .i64)) ∨ (mv = .nilslice ∧ xs = [])) (k : Nat) (hk : k ≤ 19) : ∀ (d i : Nat), i + d = k →
    RunsR PG (ntOf PG f_l3_SqlDeep) (loopAt PG f_l3_SqlDeep 6) [(1, mv), (5, nI k), (6, .str (opn (syms xs i))), (7, .str (clo (syms xs i))), (8, nI i)] [] (.exit 0) [(5, nI k), (6, .str (opn (syms xs k))), (7, .str (clo (syms xs k)))] [] := by
  have hg := ints_good hmv
  have hlen : ∀ i, i ≤ k → (opn (syms xs i)).length ≤ 38 ∧ (clo (syms xs i)).length ≤ 19 := fun i hi => by
    have h1 := opn_len (syms xs i)
    have h2 := cnt_le (syms xs i)
    have h3 : (syms xs i).length = i := by simp [syms]
    simp only [clo, List.length_replicate]
    omega
  have hN : ∀ i (a b a' b' : List UInt8), NuOk (nuL (sdNu mv xs k i a b a' b')) := fun i a b a' b' => by
    refine nuL_okB ?_
    unfold sdNu
    rw [List.all_cons, hg.1]; rfl
  have hpT : ∀ i (a b a' b' : List UInt8) (l : List (Nat × PV)), pureT (subT (nuL (sdNu mv xs k i a b a' b')) l) = true → pureT (subT (nuL (sdNu mv xs k i a b a' b')) ((1, .atom 0) :: l)) = true := fun i a b a' b' l h => by
    have h1 := hg.1
    simp only [Bool.and_eq_true] at h1
    show (mv.pure && pureT (subT (nuL (sdNu mv xs k i a b a' b')) l)) = true
    rw [h1.2, h]; rfl
  have hoT : ∀ i (a b a' b' : List UInt8) (l : List (Nat × PV)), oneT (nuL (sdNu mv xs k i a b a' b')) l = true → oneT (nuL (sdNu mv xs k i a b a' b')) ((1, .atom 0) :: l) = true := fun i a b a' b' l h => by
    show (mv.one && oneT (nuL (sdNu mv xs k i a b a' b')) l) = true
    rw [hg.2, h]; rfl
  intro d
  induction d with
  | zero =>
    intro i hi
    obtain rfl : i = k := by omega
    refine RunsR.leave ?_ (fun h => by cases h)
    exact RunsP.chk (nu := nuL (sdNu mv xs i i (opn (syms xs i)) (clo (syms xs i)) [] [])) prog_ok (hN _ _ _ _ _) (T := sdT) (s := []) (T' := [(5, .atom 1), (6, .atom 2), (7, .atom 3)]) (s' := []) sd_lone sd_out
      ⟨fCmp (a := i) (b := i) (c := false) rfl rfl rfl (by simp only [intP]; rw [decide_eq_false (by omega)]) (by decide) rfl, trivial⟩ (by rw [Bool.and_eq_true]; exact ⟨hpT _ _ _ _ _ _ rfl, hoT _ _ _ _ _ _ rfl⟩) rfl rfl
  | succ d ih =>
    intro i hi
    have e4 : IntKind.i64.wrap ((i : Int) + 1) = ((i + 1 : Nat) : Int) := by rw [w6_id (by omega) (by omega)]; omega
    obtain ⟨hl1, hl2⟩ := hlen i (by omega)
    have hA : ∀ a' b', FactsOk PG (nuL (sdNu mv xs k i (opn (syms xs i)) (clo (syms xs i)) a' b')) (sdA true) := fun a' b' =>
      ⟨fCmp (a := i) (b := k) (c := true) rfl rfl rfl (by simp only [intP]; rw [decide_eq_true (by omega)]) (by decide) rfl, trivial⟩
    have hEt : FactsOk PG (nuL (sdNu mv xs k i (opn (syms xs i)) (clo (syms xs i)) (opn (syms xs i) ++ [40]) ([41] ++ clo (syms xs i)))) (sdE true) :=
      ⟨fStrAdd (l := opn (syms xs i)) (m := [40]) rfl rfl (by simp; omega) rfl rfl, fStrAdd (l := [41]) (m := clo (syms xs i)) rfl rfl (by simp; omega) rfl rfl, fInt (a := i) (b := 1) rfl rfl rfl (by simp only [intP]; rw [e4]) (by decide) rfl, trivial⟩
    have hEf : FactsOk PG (nuL (sdNu mv xs k i (opn (syms xs i)) (clo (syms xs i)) (opn (syms xs i) ++ [45, 32]) [])) (sdE false) :=
      ⟨fStrAdd (l := opn (syms xs i)) (m := [45, 32]) rfl rfl (by simp; omega) rfl rfl, fInt (a := i) (b := 1) rfl rfl rfl (by simp only [intP]; rw [e4]) (by decide) rfl, trivial⟩
    by_cases hlt : i < xs.length
    · have hL : ∀ a' b', FactsOk PG (nuL (sdNu mv xs k i (opn (syms xs i)) (clo (syms xs i)) a' b')) (sdL true) := fun a' b' =>
        ⟨fLen hmv rfl rfl, fCmp (a := i) (b := xs.length) (c := true) rfl rfl rfl (by simp only [intP]; rw [decide_eq_true (by omega)]) (by decide) rfl, trivial⟩
      have hX : ∀ a' b' q, (wthn (xs.getD i 0) 2 == 0) = q → FactsOk PG (nuL (sdNu mv xs k i (opn (syms xs i)) (clo (syms xs i)) a' b')) (sdX q) := fun a' b' q hq =>
        ⟨fIx hmv hlt rfl rfl rfl, fprim (within3_ev _ 2 (by decide)) rfl rfl rfl, fCmp (c := q) rfl rfl rfl (by rw [i64eq, hq]) (by decide) rfl, trivial⟩
      cases hq : (wthn (xs.getD i 0) 2 == 0) with
      | true =>
        have hb : bit xs i = true := by unfold bit; rw [if_pos hlt]; exact hq
        have e1 : opn (syms xs (i + 1)) = opn (syms xs i) ++ [40] := by rw [syms_succ, hb, opn_append]; rfl
        have e2 : clo (syms xs (i + 1)) = [41] ++ clo (syms xs i) := by rw [syms_succ, hb, clo_t]; rfl
        have h := ih (i + 1) (by omega)
        rw [e1, e2] at h
        refine RunsR.round ?_ h
        exact RunsP.chk (nu := nuL (sdNu mv xs k i (opn (syms xs i)) (clo (syms xs i)) (opn (syms xs i) ++ [40]) ([41] ++ clo (syms xs i)))) prog_ok (hN _ _ _ _ _) (T := sdT) (s := []) (T' := sdT' true) (s' := []) sd_lone (bl_all sd_lt true)
          (FactsOk.append (hA _ _) (FactsOk.append (hL _ _) (FactsOk.append (hX _ _ true hq) hEt))) (by rw [Bool.and_eq_true]; exact ⟨hpT _ _ _ _ _ _ rfl, hoT _ _ _ _ _ _ rfl⟩) rfl (by rw [Bool.and_eq_true]; exact ⟨hpT _ _ _ _ _ _ rfl, rfl⟩)
      | false =>
        have hb : bit xs i = false := by unfold bit; rw [if_pos hlt]; exact hq
        have e1 : opn (syms xs (i + 1)) = opn (syms xs i) ++ [45, 32] := by rw [syms_succ, hb, opn_append]; rfl
        have e2 : clo (syms xs (i + 1)) = clo (syms xs i) := by rw [syms_succ, hb, clo_f]
        have h := ih (i + 1) (by omega)
        rw [e1, e2] at h
        refine RunsR.round ?_ h
        exact RunsP.chk (nu := nuL (sdNu mv xs k i (opn (syms xs i)) (clo (syms xs i)) (opn (syms xs i) ++ [45, 32]) [])) prog_ok (hN _ _ _ _ _) (T := sdT) (s := []) (T' := sdT' false) (s' := []) sd_lone (bl_all sd_lt false)
          (FactsOk.append (hA _ _) (FactsOk.append (hL _ _) (FactsOk.append (hX _ _ false hq) hEf))) (by rw [Bool.and_eq_true]; exact ⟨hpT _ _ _ _ _ _ rfl, hoT _ _ _ _ _ _ rfl⟩) rfl (by rw [Bool.and_eq_true]; exact ⟨hpT _ _ _ _ _ _ rfl, rfl⟩)
    · have hL : ∀ a' b', FactsOk PG (nuL (sdNu mv xs k i (opn (syms xs i)) (clo (syms xs i)) a' b')) (sdL false) := fun a' b' =>
        ⟨fLen hmv rfl rfl, fCmp (a := i) (b := xs.length) (c := false) rfl rfl rfl (by simp only [intP]; rw [decide_eq_false (by omega)]) (by decide) rfl, trivial⟩
      have hb : bit xs i = true := by unfold bit; rw [if_neg hlt]
      have e1 : opn (syms xs (i + 1)) = opn (syms xs i) ++ [40] := by rw [syms_succ, hb, opn_append]; rfl
      have e2 : clo (syms xs (i + 1)) = [41] ++ clo (syms xs i) := by rw [syms_succ, hb, clo_t]; rfl
      have h := ih (i + 1) (by omega)
      rw [e1, e2] at h
      refine RunsR.round ?_ h
      exact RunsP.chk (nu := nuL (sdNu mv xs k i (opn (syms xs i)) (clo (syms xs i)) (opn (syms xs i) ++ [40]) ([41] ++ clo (syms xs i)))) prog_ok (hN _ _ _ _ _) (T := sdT) (s := []) (T' := sdT' true) (s' := []) sd_lone sd_ge
        (FactsOk.append (hA _ _) (FactsOk.append (hL _ _) hEt)) (by rw [Bool.and_eq_true]; exact ⟨hpT _ _ _ _ _ _ rfl, hoT _ _ _ _ _ _ rfl⟩) rfl (by rw [Bool.and_eq_true]; exact ⟨hpT _ _ _ _ _ _ rfl, rfl⟩)
end
end Go.Proofs.YtdlkibeljkapeaaGreatDoor.Den
namespace Go.Proofs.YtdlkibeljkapeaaGreatDoor.Den
open Go Go.RowKit
section
variable {s rest : List UInt8}
theorem sel_w1 : wordSg (115 :: [101, 108, 101, 99, 116]) 0 = ⟨1, 0, kw "select", v0, 0⟩ := by kernel_rfl
theorem sel_w2 : wordSg (102 :: [114, 111, 109]) 9 = ⟨1, 9, kw "from", v0, 0⟩ := by kernel_rfl
theorem sel_w3 : wordSg (116 :: []) 14 = ⟨2, 14, kw "t", v0, 0⟩ := by kernel_rfl
theorem sel_w4 : wordSg (119 :: [104, 101, 114, 101]) 16 = ⟨1, 16, kw "where", v0, 0⟩ := by kernel_rfl
theorem sel_ok {nu : Nat → PV} (h0 : nu 0 = .str s) {y : Sg} {tu : Nat} (hy : Rd s 21 y tu) (hl : s.length ≤ 9223372036854775805) (hs : s = selB ++ 32 :: rest)
    (h1 : subD nu (.tup [sgA (.atom 10) (.atom 11) (.atom 12) (.atom 13) (.atom 14) (.atom 15) (.atom 16) (nI 0), .atom 17]) = .tup [y.pv, nI tu]) (h2 : oneB nu (.tup [sgA (.atom 10) (.atom 11) (.atom 12) (.atom 13) (.atom 14) (.atom 15) (.atom 16) (nI 0), .atom 17]) = true)
    (h3 : nu 10 = nI y.k) : FactsOk PG nu selF := by
  have hlen : 21 ≤ s.length := by rw [hs]; simp [selB]
  have a1 := rd_word hl (i := 0) (g := []) (by omega) (c := 115) (w := [101, 108, 101, 99, 116]) (rest := 32 :: 42 :: 32 :: (selB.drop 9 ++ 32 :: rest)) (by rw [hs]; rfl) rfl rfl rfl rfl (fun h => absurd h (by decide)) (by decide)
  have a2 := rd_mark' hl (i := 6) (g := [32]) (by omega) 10 (by decide) (by decide) (rest := selB.drop 8 ++ 32 :: rest) (by rw [hs]; rfl) rfl
  have a3 := rd_word hl (i := 8) (g := [32]) (by omega) (c := 102) (w := [114, 111, 109]) (rest := selB.drop 13 ++ 32 :: rest) (by rw [hs]; rfl) rfl rfl rfl rfl (fun h => absurd h (by decide)) (by decide)
  have a4 := rd_word hl (i := 13) (g := [32]) (by omega) (c := 116) (w := []) (rest := selB.drop 15 ++ 32 :: rest) (by rw [hs]; rfl) rfl rfl rfl rfl (fun h => absurd h (by decide)) (by decide)
  have a5 := rd_word hl (i := 15) (g := [32]) (by omega) (c := 119) (w := [104, 101, 114, 101]) (rest := 32 :: rest) (by rw [hs]; rfl) rfl rfl rfl rfl (fun h => absurd h (by decide)) (by decide)
  have b1 := a1.ev
  have b3 := a3.ev
  have b4 := a4.ev
  have b5 := a5.ev
  simp only [List.length_nil, List.length_cons, Nat.zero_add, Nat.reduceAdd] at b1 b3 b4 b5
  rw [sel_w1] at b1
  rw [sel_w2] at b3
  rw [sel_w3] at b4
  rw [sel_w4] at b5
  have ha : ∀ i : Nat, [PV.atom 0, nI i].map (subD nu) = [.str s, nI i] := fun i => by show [nu 0, nI i] = _; rw [h0]
  exact ⟨fprim b1 (ha 0) rfl rfl, fprim a2.ev (ha 6) rfl rfl, fprim b3 (ha 8) rfl rfl, fprim b4 (ha 13) rfl rfl, fprim b5 (ha 15) rfl rfl, fprim hy.ev (ha 21) h1 h2, fCmp (c := false) (a := y.k) (b := 6) h3 rfl rfl (by rw [i64eq, beq_eq_false_iff_ne.2 hy.k]) (by decide) rfl, trivial⟩
theorem sel0_ok {nu : Nat → PV} (h0 : nu 0 = .str s) (h1 : nu 1 = nI s.length) (hl : s.length ≤ 4000) : FactsOk PG nu selF0 :=
  ⟨fStrLen h0 h1 (by show (nu 1).one = true; rw [h1]; rfl), fCmp (c := false) (a := s.length) (b := 4000) h1 rfl rfl (by simp only [intP]; rw [decide_eq_false (by omega)]) (by decide) rfl, trivial⟩
def seNu (s : List UInt8) (y : Sg) (tu : Nat) (m : List PV) (r : E7) : List PV := [.str s, nI s.length, nI 0, nI 0, nI 0, nI 0, nI 0, nI 0, nI 0, nI 0] ++ (sv y tu ++ ([nI 0, nI 0] ++ (m ++ ([nI 0, nI 0] ++ r.L))))
theorem seNu_ok {y : Sg} {tu : Nat} {a b c d e f g h : PV} (hm : [a, b, c, d, e, f, g, h].all (fun p => p.clean && p.pure) = true) {r : E7} (hr : r.ok = true) : NuOk (nuL (seNu s y tu [a, b, c, d, e, f, g, h] r)) := by
  refine nuL_okB ?_
  have h1 : (r.L.all fun p => p.clean && p.pure) = true := hr
  have e : (([a, b, c, d, e, f, g, h] ++ ([nI 0, nI 0] ++ r.L)).all fun p => p.clean && p.pure) = true := by rw [List.all_append, hm, List.all_append, h1]; rfl
  exact e
theorem stmt_pure {k : Int} {nm : List UInt8} {r : E7} (hr : r.ok = true) : ((PV.tup [stmtP (nI k) tableZ (.str nm) (.str []) (.str []) .nilslice E7.zero.L r.L, nI 0, nI 0]).pure && (PV.tup [stmtP (nI k) tableZ (.str nm) (.str []) (.str []) .nilslice E7.zero.L r.L, nI 0, nI 0]).shut2) = true := by
  simp only [E7.ok, E7.L, List.all_cons, List.all_nil, Bool.and_eq_true, Bool.and_true] at hr
  simp [stmtP, tableZ, E7.zero, E7.L, PV.pure, PV.pureL, PV.shut2, PV.shut, PV.clean, hr]
  exact ⟨hr.1.1, hr.2.1.1, hr.2.2.1.1, hr.2.2.2.1.1, hr.2.2.2.2.1.1, hr.2.2.2.2.2.1.1, hr.2.2.2.2.2.2.1⟩
theorem parse_sel {y : Sg} {tu : Nat} {r : E7} {tz : Nat} (hs : s = selB ++ 32 :: rest) (hl : s.length ≤ 4000) (hy : Rd s 21 y tu) (h : Any s y tu 0 r (endSg s.length) tz) :
    Ev PG f_sql_Parse [.str s] (.tup [stmtP (nI 7) tableZ (.str [116]) (.str []) (.str []) .nilslice E7.zero.L r.L, nI 0, nI 0]) := by
  obtain ⟨h, hr⟩ := h
  have hpu := E7.pure hr
  have hf0 := sel0_ok (nu := nuL (seNu s y tu (sv (endSg s.length) tz) r)) (s := s) rfl rfl hl
  have hf := sel_ok (nu := nuL (seNu s y tu (sv (endSg s.length) tz) r)) (s := s) (rest := rest) rfl hy (by omega) hs (by
    have h0 := hy.e
    obtain ⟨k, a, w, v, e⟩ := y
    dsimp only at h0
    subst h0
    rfl) rfl rfl
  refine Ev.facts (nu := nuL (seNu s y tu (sv (endSg s.length) tz) r)) (args := [.atom 0]) prog_ok (seNu_ok rfl hr) (okR_eq sel_k1) (FactsOk.append hf0 (FactsOk.append hf ⟨fst1 h rfl rfl rfl rfl rfl, trivial⟩)) rfl ?_
  exact stmt_pure hr
def twNu (a tz : Int) (at_ : Int) : List PV := [nI a, nI tz, nI at_, nI 0, nI 0, nI 0, nI 0, nI 0]
theorem parse_selF {y : Sg} {tu : Nat} {at_ : Int} (hs : s = selB ++ 32 :: rest) (hl : s.length ≤ 4000) (hy : Rd s 21 y tu) (h : AnyF s y tu 0 at_) :
    Ev PG f_sql_Parse [.str s] (.tup [stmtP (nI 0) tableZ (.str []) (.str []) (.str []) .nilslice E7.zero.L E7.zero.L, nI at_, nI 11]) := by
  obtain ⟨r, a, tz, h, hr⟩ := h
  have hf0 := sel0_ok (nu := nuL (seNu s y tu (twNu a tz at_) r)) (s := s) rfl rfl hl
  have hf := sel_ok (nu := nuL (seNu s y tu (twNu a tz at_) r)) (s := s) (rest := rest) rfl hy (by omega) hs (by
    have h0 := hy.e
    obtain ⟨k, a, w, v, e⟩ := y
    dsimp only at h0
    subst h0
    rfl) rfl rfl
  exact Ev.facts (nu := nuL (seNu s y tu (twNu a tz at_) r)) (args := [.atom 0]) prog_ok (seNu_ok rfl hr) (okR_eq sel_k2) (FactsOk.append hf0 (FactsOk.append hf ⟨fst1 h rfl rfl rfl rfl rfl, trivial⟩)) rfl rfl
def sdText (l : List Bool) : List UInt8 := selB ++ (32 :: (opn l ++ (120 :: clo l)))
theorem sd_parse (l : List Bool) (hl : l.length ≤ 19) : (l.length ≤ 12 ∧ ∃ r : E7, r.ok = true ∧ Ev PG f_sql_Parse [.str (sdText l)] (.tup [stmtP (nI 7) tableZ (.str [116]) (.str []) (.str []) .nilslice E7.zero.L r.L, nI 0, nI 0])) ∨
    (12 < l.length ∧ ∃ at_ : Nat, 34 ≤ at_ ∧ at_ ≤ 46 ∧ Ev PG f_sql_Parse [.str (sdText l)] (.tup [stmtP (nI 0) tableZ (.str []) (.str []) (.str []) .nilslice E7.zero.L E7.zero.L, nI at_, nI 11])) := by
  have h1 := opn_len l
  have h2 := cnt_le l
  have hlen : (sdText l).length = 21 + (1 + ((opn l).length + (1 + cnt l))) := by simp [sdText, selB, clo]; omega
  have hL : Lies (sdText l) 21 [32] l 0 := ⟨by omega, rfl, by rfl⟩
  obtain ⟨tu, h3, h4, _⟩ := fst_rd (by omega) hL
  by_cases hc : l.length ≤ 12
  · obtain ⟨r, z, tz, h5, h6⟩ := deep_one (s := sdText l) (by omega) l (dp := 0) hL (by omega) h4
    have h7 := any_one (fst_k l _).2.2.2.2.2 h5 (aft_stops h6)
    obtain ⟨_, ⟨_, rfl, rfl⟩ | ⟨m', a, hm, _⟩⟩ := h6
    · exact .inl ⟨hc, r, h7.2, parse_sel rfl (by omega) h3 h7⟩
    · omega
  · obtain ⟨a, h5, h6, h7⟩ := deep_oneF (s := sdText l) (by omega) l (dp := 0) hL (by omega) (by omega) h4
    simp only [List.length_cons, List.length_nil] at h6 h7
    exact .inr ⟨by omega, a, by omega, by omega, parse_selF rfl (by omega) h3 (any_oneF (fst_k l _).2.2.2.2.2 h5)⟩
end
end Go.Proofs.YtdlkibeljkapeaaGreatDoor.Den
namespace Go.Proofs.YtdlkibeljkapeaaGreatDoor.Den
open Go Go.RowKit
def sdB (c : Bool) : List Fact := [.prim f_l3_known [] (.bool true), .prim f_l3_within [.atom 0, nI 20] (.atom 2), .loop f_l3_SqlDeep 6 [(1, .atom 1), (5, .atom 2), (6, .str []), (7, .str []), (8, nI 0)] [] (.exit 0) [(5, .atom 2), (6, .atom 3), (7, .atom 4)] [],
  .op (.bin .add ty_string) [.str (selB ++ [32]), .atom 3] (.atom 5), .op (.bin .add ty_string) [.atom 5, .str [120]] (.atom 6), .op (.bin .add ty_string) [.atom 6, .atom 4] (.atom 7), oI .leq (.atom 2) (nI 12) (.bool c)]
def sdOk : List Fact := [.prim f_sql_Parse [.atom 7] (.tup [stmtP (nI 7) tableZ (.str [116]) (.str []) (.str []) .nilslice E7.zero.L (eaL 30), nI 0, nI 0])]
def sdNo : List Fact := [.prim f_sql_Parse [.atom 7] (.tup [stmtP (nI 0) tableZ (.str []) (.str []) (.str []) .nilslice E7.zero.L E7.zero.L, .atom 9, nI 11]), oI .geq (.atom 9) (nI 34) (.bool true), oI .leq (.atom 9) (nI 46) (.bool true)]
theorem sd_k1 : okR (.bool true) (callF PG (fOrc noOwn (sdB true ++ sdOk)) 20 f_l3_SqlDeep [.atom 0, .atom 1] []) = true := by kernel_rfl
theorem sd_k2 : okR (.bool true) (callF PG (fOrc noOwn (sdB false ++ sdNo)) 20 f_l3_SqlDeep [.atom 0, .atom 1] []) = true := by kernel_rfl
theorem wthn_nat (n : Int) (m : Nat) (h0 : 0 < m) (h1 : m ≤ 9223372036854775807) : ∃ k : Nat, wthn n m = k ∧ k < m := by
  unfold wthn
  have h2 := Int.tmod_lt_of_pos n (show (0 : Int) < m by omega)
  have h3 : -(m : Int) < n.tmod m := by
    have := Int.lt_tmod_of_pos n (show (0 : Int) < m by omega)
    omega
  split
  · rw [w6_id (by omega) (by omega)]
    exact ⟨(n.tmod m + m).toNat, by omega, by omega⟩
  · exact ⟨(n.tmod m).toNat, by omega, by omega⟩
def sdLNu (n : Int) (mv : PV) (k : Nat) (a b : List UInt8) (at_ : Int) (r : E7) : List PV := [nI n, mv] ++ ([nI k, .str a, .str b, .str (selB ++ [32] ++ a), .str (selB ++ [32] ++ a ++ [120]), .str (selB ++ [32] ++ a ++ [120] ++ b), nI 0, nI at_, nI 0, nI 0, nI 0, nI 0, nI 0, nI 0, nI 0, nI 0, nI 0, nI 0, nI 0, nI 0, nI 0, nI 0, nI 0, nI 0, nI 0, nI 0, nI 0, nI 0] ++ r.L)
theorem deep_ev {mv : PV} {xs : List Int} (hmv : mv = .slice 1 (xs.map (.int .i64)) ∨ (mv = .nilslice ∧ xs = [])) (n : Int) : Ev PG f_l3_SqlDeep [nI n, mv] (.bool true) := by
  have hg := ints_good hmv
  obtain ⟨k, hw, hk⟩ := wthn_nat n 20 (by decide) (by decide)
  have hwe := within3_ev n 20 (by decide)
  rw [show wthn n 20 = k from hw] at hwe
  have hloop := sd_loop hmv k (by omega) k 0 (by omega)
  have hsl : (syms xs k).length = k := by simp [syms]
  have h1 := opn_len (syms xs k)
  have h2 := cnt_le (syms xs k)
  have h3 : (clo (syms xs k)).length ≤ 19 := by simp only [clo, List.length_replicate]; omega
  have hT : selB ++ [32] ++ opn (syms xs k) ++ [120] ++ clo (syms xs k) = sdText (syms xs k) := by simp [sdText]
  have hN : ∀ (at_ : Int) (r : E7), r.ok = true → NuOk (nuL (sdLNu n mv k (opn (syms xs k)) (clo (syms xs k)) at_ r)) := fun at_ r hr => by
    refine nuL_okB (all3 ?_ ?_ hr)
    · show ((nI n).clean && (nI n).pure && ((mv.clean && mv.pure) && true)) = true
      rw [hg.1]; rfl
    · rfl
  have hB : ∀ (at_ : Int) (r : E7) (c : Bool), decide (k ≤ 12) = c → FactsOk PG (nuL (sdLNu n mv k (opn (syms xs k)) (clo (syms xs k)) at_ r)) (sdB c) := fun at_ r c hc => by
    have hc' : decide ((k : Int) ≤ 12) = c := by rw [← hc]; exact decide_eq_decide.2 (by omega)
    exact ⟨fprim known_ev rfl rfl rfl, fprim hwe rfl rfl rfl, fLoopOk sd_lone (Nat.le_refl _) hloop rfl,
      fStrAdd (l := selB ++ [32]) (m := opn (syms xs k)) rfl rfl (by simp [selB]; omega) rfl rfl, fStrAdd (l := selB ++ [32] ++ opn (syms xs k)) (m := [120]) rfl rfl (by simp [selB]; omega) rfl rfl, fStrAdd (l := selB ++ [32] ++ opn (syms xs k) ++ [120]) (m := clo (syms xs k)) rfl rfl (by simp [selB]; omega) rfl rfl,
      fCmp (a := k) (b := 12) (c := c) rfl rfl rfl (by simp only [intP]; rw [hc']) (by decide) rfl, trivial⟩
  have hargs : ∀ (at_ : Int) (r : E7), ([PV.atom 0, PV.atom 1].all fun p => argB (nuL (sdLNu n mv k (opn (syms xs k)) (clo (syms xs k)) at_ r)) p && p.shut) = true := fun at_ r => by
    have h1 := hg.1
    simp only [Bool.and_eq_true] at h1
    show ((argB _ (.atom 0) && true) && (((mv.pure && mv.one) && true) && true)) = true
    rw [h1.2, hg.2]; rfl
  rcases sd_parse (syms xs k) (by omega) with ⟨hc, r, hr, hp⟩ | ⟨hc, a, ha1, ha2, hp⟩
  · rw [← hT] at hp
    exact Ev.facts (nu := nuL (sdLNu n mv k (opn (syms xs k)) (clo (syms xs k)) 0 r)) (args := [.atom 0, .atom 1]) prog_ok (hN _ _ hr) (okR_eq sd_k1) (FactsOk.append (hB _ _ true (decide_eq_true (by omega))) ⟨fprim hp rfl rfl rfl, trivial⟩) (hargs _ _) rfl
  · rw [← hT] at hp
    exact Ev.facts (nu := nuL (sdLNu n mv k (opn (syms xs k)) (clo (syms xs k)) a E7.zero)) (args := [.atom 0, .atom 1]) prog_ok (hN _ _ rfl) (okR_eq sd_k2) (FactsOk.append (hB _ _ false (decide_eq_false (by omega))) ⟨fprim hp rfl rfl rfl,
      fCmp (a := a) (b := 34) (c := true) rfl rfl rfl (by simp only [intP]; rw [decide_eq_true (by omega)]) (by decide) rfl, fCmp (a := a) (b := 46) (c := true) rfl rfl rfl (by simp only [intP]; rw [decide_eq_true (by omega)]) (by decide) rfl, trivial⟩) (hargs _ _) rfl
end Go.Proofs.YtdlkibeljkapeaaGreatDoor.Den
