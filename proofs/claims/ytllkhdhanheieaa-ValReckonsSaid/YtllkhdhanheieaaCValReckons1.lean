-- Written by drive.py and pack.py (programs of this proof's own) through the kit's printer; not trusted: Lean checks it.
import Derived.Test.YtllkhdhanheieaaProg
import Derived.Below
import Derived.Deep.Draws
import Derived.Deep.AppendLies
import Derived.Maps.AppendAt
import Derived.OwnWalk
import Derived.Laws.BytesArg
import Derived.Laws.MakeOwn
import Derived.Laws.OwnMore
import Derived.Deep.OwnRows
import Derived.Tactics
import Derived.Lib.ConvBytes
import Derived.Laws.Slices
import Derived.WalkKit
import Derived.KernelRfl
import Derived.RowKit3
import Derived.Deep.LoopGhost
import Derived.Deep.QuietTactic
import Derived.BigQuiet
import Derived.WideLaws
import Derived.Deep.DeepCutAuto
import Derived.Deep.CutBlock
import Derived.Deep.RegionHeld3
import Derived.Laws.Rows
import Derived.Lib.AppendStr
import Derived.ArgAppend
import Derived.Laws.IdiomCopy
import Derived.OrdersHeld
import Derived.Laws.BitsLemmas
import Derived.RowKit
import Derived.Test.YtllkhdhanheieaaCValReckons0
namespace Go.Proofs.Ytllkhdhanheieaa.R
open Go.RowKit Go.Proofs.YtllkhdhanheieaaW.PrintWords Go.Proofs.YtllkhdhanheieaaW.PrintLast Go.Proofs.YtllkhdhanheieaaW.PrintMore
attribute [local go_sem] max2_int min2_int max_two min_two max_three min_three max_four min_four
set_option linter.unusedVariables false
set_option linter.unusedSimpArgs false
def errW : Option Int → Value
  | none => .nilIface
  | some c => .iface 0 (.int .i64 c)
theorem errW_none : errW none = .nilIface := rfl
theorem errW_some (c : Int) : errW (some c) = .iface 0 (.int .i64 c) := rfl
structure S23 where
  f0 : Int
  f1 : Int
  f2 : Int
  f3 : ByteArray
def z23 : S23 := ⟨(0 : Int), (0 : Int), (0 : Int), (⟨#[]⟩ : ByteArray)⟩
def k23 : Kd S23 := Kd.iso (Kd.pair (Kd.int .i64) (Kd.pair (Kd.int .i64) (Kd.pair (Kd.int .i64) Kd.string))) (fun x : S23 => (x.f0, x.f1, x.f2, x.f3))
theorem k23_open {w : World} {x : S23} {cs : List Value} (h : k23.K w x cs) : cs = [.int .i64 x.f0, .int .i64 x.f1, .int .i64 x.f2, .string x.f3] := by
  obtain ⟨_, _, rfl, rfl, ⟨_, _, rfl, rfl, ⟨_, _, rfl, rfl, rfl⟩⟩⟩ := h
  exact rfl
theorem k23_mkM (w : World) (base : Nat) (ok : Nat → Prop) (x : S23)  : k23.M w base ok x [.int .i64 x.f0, .int .i64 x.f1, .int .i64 x.f2, .string x.f3] := ⟨[.int .i64 x.f0], [.int .i64 x.f1, .int .i64 x.f2, .string x.f3], rfl, rfl, ⟨[.int .i64 x.f1], [.int .i64 x.f2, .string x.f3], rfl, rfl, ⟨[.int .i64 x.f2], [.string x.f3], rfl, rfl, rfl⟩⟩⟩
def rd_T23 (xs : List S23) (i : Int) : S23 := xs.getD i.toNat z23
theorem at_T23 {w : World} {A : Option Addr} {n : Nat} {xs : List S23} (h : Kd.C k23 w A n xs) (i : Int) (h0 : 0 ≤ i) (h1 : i < n) : ∃ ad , A = some ad ∧ w.cell? (ad.add (i.toNat * 4)) = some (.int .i64 (rd_T23 xs i).f0) ∧ w.cell? ⟨(ad.add (i.toNat * 4)).block, (ad.add (i.toNat * 4)).off + 1, none⟩ = some (.int .i64 (rd_T23 xs i).f1) ∧ w.cell? ⟨(ad.add (i.toNat * 4)).block, (ad.add (i.toNat * 4)).off + 2, none⟩ = some (.int .i64 (rd_T23 xs i).f2) ∧ w.cell? ⟨(ad.add (i.toNat * 4)).block, (ad.add (i.toNat * 4)).off + 3, none⟩ = some (.string (rd_T23 xs i).f3) := by
  obtain ⟨ad, c, e, _, hK, hc0⟩ := Kd.C_get h z23 i h0 h1
  have hc : ∀ j u, c[j]? = some u → w.cell? (ad.add (i.toNat * 4 + j)) = some u := hc0
  obtain rfl := k23_open hK
  exact ⟨ad, e, hc 0 _ rfl, by rw [← add_field _ _ 1 (by omega)]; exact hc 1 _ rfl, by rw [← add_field _ _ 2 (by omega)]; exact hc 2 _ rfl, by rw [← add_field _ _ 3 (by omega)]; exact hc 3 _ rfl⟩
theorem bytesLess_swap : ∀ a b : List UInt8, Op.bytesLess b a = !(Op.bytesLess a b || a == b)
  | [], [] => by simp [Op.bytesLess]
  | [], _ :: _ => by simp [Op.bytesLess]
  | _ :: _, [] => by simp [Op.bytesLess]
  | x :: a, y :: b => by
    have ih := bytesLess_swap a b
    simp only [Op.bytesLess]
    by_cases h1 : x < y
    · have h2 : ¬ y < x := by rw [UInt8.lt_iff_toNat_lt] at *; omega
      have h3 : ¬ y = x := by rintro rfl; exact h2 h1
      simp [h1, h2, h3]
    · by_cases h2 : y < x
      · have h3 : ¬ x = y := by rintro rfl; exact h1 h2
        simp [h1, h2, h3]
      · have h3 : x = y := by
          apply UInt8.toNat_inj.1
          rw [UInt8.lt_iff_toNat_lt] at *; omega
        subst h3
        simp [h1, ih]
theorem own_gtr (t : TypeId) (a b : ByteArray) : binOp .gtr t (.string a) (.string b) = pure (.bool (Op.bytesLess b.toList a.toList)) := by
  rw [bytesLess_swap a.toList b.toList]; simp [binOp, Op.stringOp]
theorem own_leq (t : TypeId) (a b : ByteArray) : binOp .leq t (.string a) (.string b) = pure (.bool (!Op.bytesLess b.toList a.toList)) := by
  rw [bytesLess_swap a.toList b.toList]; simp [binOp, Op.stringOp]
theorem own_geq (t : TypeId) (a b : ByteArray) : binOp .geq t (.string a) (.string b) = pure (.bool (!Op.bytesLess a.toList b.toList)) := by
  simp [binOp, Op.stringOp]
section
variable {P : Program} {ops : Array Oper} {Q : Exit → Act → World → Prop}
theorem gate_dyn {o : Oper} {rest : List Oper} {a : Act} {W : World} {c : Operand} {xs : Array Operand} {ts : Array TypeId} (_ho : o.op = .call { callee := .value c, args := xs, argTypes := ts }) (h : wpList P ops Q (o :: rest) a W) : wpList P ops Q (o :: rest) a W := h
theorem goesd_ {oi : Oper} {N : Option Tmp} {a : Act} {w : World} {K : Act → World → Prop} {f : FuncId} {fn : Func} {c : Operand} {xs : Array Operand} {ts : Array TypeId} {first captured : Array Value} (hf : P.funcs[f]? = some fn) (hname : (fn.name == "runtime.NumGoroutine") = false) (hb : fn.body.isSome = true) (args : Array Value)
    (hw : Region.wanted oi (yielded ops a.tmps) = true) (hN : oi.dst = N) (hop : oi.op = .call { callee := .value c, args := xs, argTypes := ts }) (hc : a.eval c = .func (.func f) first captured) (hargs : first ++ xs.map a.eval ++ captured = args)
    (h : Calls P f args w fun e w' => ∃ v, e = .returned v ∧ K (a.put N v) w') : if Region.wanted oi (yielded ops a.tmps) = true then Oper.wp P oi a w K Q else K (a.put N undef) w := by
  refine call_ f args hw hN ?_ h
  have he := enters_ hf hname hb args w
  unfold execOp
  simp [hop, resolve, Deferred.ofValue, invoke, hc, hargs, he]
theorem goesLd_ {rest : List Oper} {oi : Oper} {a : Act} {w : World} (N : Option Tmp) (hd : oi.dst = N) (hg : oi.guard = none) {f : FuncId} {fn : Func} {c : Operand} {xs : Array Operand} {ts : Array TypeId} {first captured : Array Value} (hf : P.funcs[f]? = some fn) (hname : (fn.name == "runtime.NumGoroutine") = false) (hb : fn.body.isSome = true) (args : Array Value)
    (hop : oi.op = .call { callee := .value c, args := xs, argTypes := ts }) (hc : a.eval c = .func (.func f) first captured) (hargs : first ++ xs.map a.eval ++ captured = args)
    (h : Calls P f args w fun e w' => ∃ v, e = .returned v ∧ wpList P ops Q rest (a.put N v) w') : wpList P ops Q (oi :: rest) a w := by
  refine wpList_plain hg fun K hK => ?_
  have he := enters_ hf hname hb args w
  have hrun : (execOp a.eval oi).run P w = .ok (.enter f args) w := by
    unfold execOp
    simp [hop, resolve, Deferred.ofValue, invoke, hc, hargs, he]
  unfold Oper.wp
  rw [hrun, Oper.upon_enter]
  refine h.mono fun e w'' hh => ?_
  obtain ⟨v, rfl, hk⟩ := hh
  subst hd
  exact hK _ _ hk
end
theorem own_cell_set (w : World) (b o b' o' : Nat) (v : Value) : (w.setCell ⟨b, o, none⟩ v).cell? ⟨b', o', none⟩ = if b = b' ∧ o = o' then (w.cell? ⟨b', o', none⟩).map (fun _ => v) else w.cell? ⟨b', o', none⟩ := by
  by_cases h : b = b' ∧ o = o'
  · obtain ⟨rfl, rfl⟩ := h
    rw [if_pos ⟨rfl, rfl⟩]
    cases hc : w.cell? ⟨b, o, none⟩ with
    | some u => exact World.cell?_setCell_same w _ v hc
    | none =>
      have hn : (w.setCell ⟨b, o, none⟩ v).cell? ⟨b, o, none⟩ = none := by
        simp only [World.cell?, World.setCell, Array.getElem?_modify] at hc ⊢
        cases hb : w.heap[b]? with
        | none => simp
        | some ob =>
          cases ob with
          | cells c e f =>
            rw [hb] at hc
            simp at hc ⊢
            omega
          | _ => simp
      rw [hn]; rfl
  · rw [if_neg h]
    refine World.cell?_setCell_other w _ _ v ?_
    intro e
    simp only [Addr.mk.injEq] at e
    exact h ⟨e.1, e.2.1⟩
theorem fld23_1 (c0 c1 c2 c3 : Value) (w : World) : (Instr.field 23 (.agg #[c0, c1, c2, c3]) 1).run Try.prog w = .ok (c1) w := by kernel_rfl
theorem zbN {w : World} {g : Nat} {o : Obj} (h : w.heap[g]? = some o) (n : Nat) : (w.drewN n).heap[g]? = some o := blk_drewN h n
theorem zb1 {w : World} {g : Nat} {o : Obj} (h : w.heap[g]? = some o) : w.drew.heap[g]? = some o := blk_drew h
theorem zbA {w : World} {g : Nat} {o : Obj} (h : w.heap[g]? = some o) (o' : Obj) : (w.alloc o').heap[g]? = some o := blk_alloc h o'
theorem zbb {w w1 : World} {g : Nat} {o : Obj} (h : w.heap[g]? = some o) (hb : Below w.heap.size w w1) : w1.heap[g]? = some o := blk_below h hb
theorem zA {w W : World} (h : Below w.heap.size w W) (o : Obj) : Below w.heap.size w (W.alloc o) := below_alloc h o
theorem zN {B : Nat} {w W : World} (h : Below B w W) (n : Nat) : Below B w (W.drewN n) := pw_below_drewN h n
theorem z1 {base : Nat} {w W : World} (h : Below base w W) : Below base w W.drew := below_drew1 h
theorem zS {w W : World} {g j : Nat} {v : Value} (h : Below w.heap.size w W) (hg : w.heap.size ≤ g) : Below w.heap.size w (W.setCell ⟨g, j, none⟩ v) := below_set h hg
theorem zBs {w W : World} (h : Below w.heap.size w W) : w.heap.size ≤ W.heap.size := below_size h
theorem zfz {w : World} {g : Nat} {t : TypeId} {cs : Array Value} (h : w.heap[g]? = some (.cells cs t (0, 0))) (i : Nat) : w.frozen? ⟨g, i, none⟩ = false := blk_frozen h i
theorem zce {w : World} {g : Nat} {t : TypeId} {cs : Array Value} (h : w.heap[g]? = some (.cells cs t (0, 0))) (i : Nat) : w.cell? ⟨g, i, none⟩ = cs[i]? := blk_cell h i
theorem zbf {w : World} {g : Nat} {t : TypeId} {cs : Array Value} (h : w.heap[g]? = some (.cells cs t (0, 0))) {p : Addr} (hp : g ≠ p.block) (u : Value) : (w.setCell p u).heap[g]? = some (.cells cs t (0, 0)) := blk_far h hp u
theorem zbp {w : World} {g : Nat} {t : TypeId} {cs cs' : Array Value} (h : w.heap[g]? = some (.cells cs t (0, 0))) (i : Nat) (u : Value) (e : cs.setIfInBounds i u = cs') : (w.setCell ⟨g, i, none⟩ u).heap[g]? = some (.cells cs' t (0, 0)) := blk_put h i u e
theorem z_ {p : Prop} (h : p) : Aside0 p := ⟨h⟩
end Go.Proofs.Ytllkhdhanheieaa.R
namespace Go.Proofs.Ytllkhdhanheieaa.R
open Go.RowKit Go.Proofs.YtllkhdhanheieaaW.PrintWords Go.Proofs.YtllkhdhanheieaaW.PrintLast Go.Proofs.YtllkhdhanheieaaW.PrintMore
attribute [local go_sem] max2_int min2_int max_two min_two max_three min_three max_four min_four
attribute [local go_sem high] own_gtr own_leq own_geq own_cell_set Option.map_some fld23_1
set_option linter.unusedVariables false
set_option linter.unusedSimpArgs false
def val_printable.l0:Nat → ByteArray → Int → Option (Bool)
 | 0,_,_=>none
 | k + 1,x0,x3=>if x3 < (x0.size:Int) then (if 0 ≤ x3 then (if (bt x0 x3) < 32 then (some false) else (if (bt x0 x3) > 126 then (some false) else (val_printable.l0 k x0 (wrap64 (x3 + 1))))) else (none)) else (some true)
def val_printable.f (k:Nat) (a0:ByteArray):Option (Bool):=val_printable.l0 k a0 0
theorem val_printable.mono_l:∀ k,(∀ y0 y1,LeO (val_printable.l0 k y0 y1) (val_printable.l0 (k + 1) y0 y1))
 | 0=>fun _ _ r h=>by simp [val_printable.l0] at h
 | k + 1=>by
  have ih0:=val_printable.mono_l k
  ·intro y0 y1
   unfold val_printable.l0
   repeat' first
   | (with_reducible exact ih0 _ _)
   | (with_reducible exact LeO.refl _)
   | (with_reducible exact LeO.none _)
   | (with_reducible refine LeO.ite ?_ ?_)
   | (with_reducible refine LeO.bind ?_ (fun _=>?_))
   | exact ih0 _ _
   | exact LeO.none _
   | refine LeO.ite ?_ ?_
   | refine LeO.bind ?_ (fun _=>?_)
theorem val_printable.mono:∀ a0 k,LeO (val_printable.f k a0) (val_printable.f (k + 1) a0):=by
 intro a0 k
 have ih0:=val_printable.mono_l k
 unfold val_printable.f
 repeat' first
   | (with_reducible exact ih0 _ _)
   | (with_reducible exact LeO.refl _)
   | (with_reducible exact LeO.none _)
   | (with_reducible refine LeO.ite ?_ ?_)
   | (with_reducible refine LeO.bind ?_ (fun _=>?_))
   | exact ih0 _ _
   | exact LeO.none _
   | refine LeO.ite ?_ ?_
   | refine LeO.bind ?_ (fun _=>?_)
set_option maxHeartbeats 8000000 in
set_option maxRecDepth 100000 in
theorem val_printable.calls (k:Nat) (a0:ByteArray) (r:Bool) (w:World) (h:val_printable.f k a0 = some r) :
  Calls Try.prog 29 #[.string a0] w fun e w'=>e = .returned (.bool r) ∧ Drawn0 w w':=by
 have H:(val_printable.l0 k a0 0) = some r:=h
 clear h
 have H':=z_ H
 clear H
 go_enter Try.func29,Try.ntmps29
 go_wp2
 go_loopg [3] k (fun kq v3 w'=>∃ (x3_1:Int),v3 = .int .i64 x3_1 ∧ Aside0 (val_printable.l0 kq a0 x3_1 = some r) ∧ Aside0 (kq ≤ k) ∧ Drawn0 w w')
 case atStart=>exact ⟨(0),(by first|rfl|(simp;done)|(simp [*];done)),H',⟨Nat.le_refl _⟩,by repeat (first|exact Drawn0.refl _|apply Drawn0.step)⟩
 case round =>
  clear H'
  obtain ⟨x3_1,rfl,HA,HK1,⟨m1,rfl⟩⟩:=hrel
  cases gk with
  | zero=>exact absurd HA.out (by simp [val_printable.l0])
  | succ k1 =>
   have H:=HA.out
   clear HA
   simp only [val_printable.l0] at H
   by_cases c2:x3_1 < (a0.size:Int)
   ·rw [if_pos c2] at H
    have c2b0:decide (x3_1 < (a0.size:Int)) = true:=decide_eq_true c2
    clear c2
    by_cases c3:0 ≤ x3_1
    ·rw [if_pos c3] at H
     have c3b0:decide (0 ≤ x3_1) = true:=decide_eq_true c3
     clear c3
     by_cases c5:(bt a0 x3_1) < 32
     ·rw [if_pos c5] at H
      have c5b0:decide ((bt a0 x3_1) < 32) = true:=decide_eq_true c5
      clear c5
      obtain rfl:=Option.some.inj H
      have p4:0 ≤ (x3_1:Int):=of_decide_eq_true (by first|(with_reducible assumption)|assumption)
      have q4:x3_1 < (a0.size:Int):=of_decide_eq_true (by first|(with_reducible assumption)|assumption)
      have hx4:=bt_at a0 x3_1
      replace p4:=eq_true p4
      replace q4:=eq_true q4
      go_wp2
      go_ret
      exact ⟨by first|rfl|(simp;done)|(simp [*];done),by repeat (first|exact Drawn0.refl _|apply Drawn0.step)⟩
     ·rw [if_neg c5] at H
      have c5b0:decide ((bt a0 x3_1) < 32) = false:=decide_eq_false c5
      clear c5
      by_cases c7:(bt a0 x3_1) > 126
      ·rw [if_pos c7] at H
       have c7b0:decide (126 < (bt a0 x3_1)) = true:=decide_eq_true c7
       clear c7
       obtain rfl:=Option.some.inj H
       have p4:0 ≤ (x3_1:Int):=of_decide_eq_true (by first|(with_reducible assumption)|assumption)
       have q4:x3_1 < (a0.size:Int):=of_decide_eq_true (by first|(with_reducible assumption)|assumption)
       have hx4:=bt_at a0 x3_1
       replace p4:=eq_true p4
       replace q4:=eq_true q4
       have p6:0 ≤ (x3_1:Int):=of_decide_eq_true (by first|(with_reducible assumption)|assumption)
       have q6:x3_1 < (a0.size:Int):=of_decide_eq_true (by first|(with_reducible assumption)|assumption)
       have hx6:=bt_at a0 x3_1
       replace p6:=eq_true p6
       replace q6:=eq_true q6
       go_wp2
       go_ret
       exact ⟨by first|rfl|(simp;done)|(simp [*];done),by repeat (first|exact Drawn0.refl _|apply Drawn0.step)⟩
      ·rw [if_neg c7] at H
       have c7b0:decide (126 < (bt a0 x3_1)) = false:=decide_eq_false c7
       clear c7
       have H':=z_ H
       clear H
       have p4:0 ≤ (x3_1:Int):=of_decide_eq_true (by first|(with_reducible assumption)|assumption)
       have q4:x3_1 < (a0.size:Int):=of_decide_eq_true (by first|(with_reducible assumption)|assumption)
       have hx4:=bt_at a0 x3_1
       replace p4:=eq_true p4
       replace q4:=eq_true q4
       have p6:0 ≤ (x3_1:Int):=of_decide_eq_true (by first|(with_reducible assumption)|assumption)
       have q6:x3_1 < (a0.size:Int):=of_decide_eq_true (by first|(with_reducible assumption)|assumption)
       have hx6:=bt_at a0 x3_1
       replace p6:=eq_true p6
       replace q6:=eq_true q6
       go_wp2
       go_roundg k1
       case measure=>have:=HK1.out;omega
       case rel=>exact ⟨(wrap64 (x3_1 + 1)),(by first|rfl|(simp;done)|(simp [*];done)),H',⟨by have:=HK1.out;omega⟩,by repeat (first|exact Drawn0.refl _|apply Drawn0.step)⟩
    ·rw [if_neg c3] at H
     exact absurd H (by simp)
   ·rw [if_neg c2] at H
    have c2b0:decide (x3_1 < (a0.size:Int)) = false:=decide_eq_false c2
    clear c2
    obtain rfl:=Option.some.inj H
    go_wp2
    go_ret
    exact ⟨by first|rfl|(simp;done)|(simp [*];done),by repeat (first|exact Drawn0.refl _|apply Drawn0.step)⟩
end Go.Proofs.Ytllkhdhanheieaa.R
namespace Go.Proofs.Ytllkhdhanheieaa.R
open Go.RowKit Go.Proofs.YtllkhdhanheieaaW.PrintWords Go.Proofs.YtllkhdhanheieaaW.PrintLast Go.Proofs.YtllkhdhanheieaaW.PrintMore
attribute [local go_sem] max2_int min2_int max_two min_two max_three min_three max_four min_four
attribute [local go_sem high] own_gtr own_leq own_geq own_cell_set Option.map_some fld23_1
set_option linter.unusedVariables false
set_option linter.unusedSimpArgs false
theorem eqA23 (d:Nat) (w:World) (x0 y0:Int) (x1 y1:Int) (x2 y2:Int) (x3 y3:ByteArray) :
  (Op.equalIn (d + 2) 23 (.agg #[.int .i64 x0, .int .i64 x1, .int .i64 x2, .string x3]) (.agg #[.int .i64 y0, .int .i64 y1, .int .i64 y2, .string y3])).run Try.prog w = .ok (x0 == y0 && (x1 == y1 && (x2 == y2 && (x3.toList == y3.toList)))) w:=by
 refine eqA_of Try.underlying23 (by kernel_rfl) ?_
 refine eqf_cons (by rfl) (by go_simp;rfl) (by go_simp;rfl) (by go_simp) ?_
 refine eqf_cons (by rfl) (by go_simp;rfl) (by go_simp;rfl) (by go_simp) ?_
 refine eqf_cons (by rfl) (by go_simp;rfl) (by go_simp;rfl) (by go_simp) ?_
 exact eqf_last (by rfl) (by go_simp;rfl) (by go_simp;rfl) (by go_simp)
end Go.Proofs.Ytllkhdhanheieaa.R
namespace Go.Proofs.Ytllkhdhanheieaa.R
open Go.RowKit Go.Proofs.YtllkhdhanheieaaW.PrintWords Go.Proofs.YtllkhdhanheieaaW.PrintLast Go.Proofs.YtllkhdhanheieaaW.PrintMore
attribute [local go_sem] max2_int min2_int max_two min_two max_three min_three max_four min_four
attribute [local go_sem high] own_gtr own_leq own_geq own_cell_set Option.map_some fld23_1
set_option linter.unusedVariables false
set_option linter.unusedSimpArgs false
attribute [local go_sem high] eqA23
def val_Right.j0:Nat → Bool → Int → Int → Int → ByteArray → Int → Int → Int → ByteArray → Option (Bool)
 | 0,_,_,_,_,_,_,_,_,_=>none
 | k + 1,x52,x102000,x102001,x102002,x102003,x103000,x103001,x103002,x103003=>if x52 = true then (if (x102003.size:Int) > 40 then (some false) else (if x102000 = 4 then ((val_printable.f k x102003).bind fun t103=>(if t103 = true then (some (x102000 == x103000 && (x102001 == x103001 && (x102002 == x103002)))) else (some false))) else (some (x102000 == x103000 && (x102001 == x103001 && (x102002 == x103002)))))) else (some false)
def val_Right.f (k:Nat) (a0_0:Int) (a0_1:Int) (a0_2:Int) (a0_3:ByteArray):Option (Bool):=if a0_0 = 0 then (some (a0_1 == 0 && (a0_2 == 0 && (a0_3.toList == ([]:List UInt8))))) else (if a0_0 = 1 then (some (a0_1 == (mn (mx a0_1 0) 1) && (a0_2 == 0 && (a0_3.toList == ([]:List UInt8))))) else (if a0_0 = 2 then (some (a0_2 == 0 && (a0_3.toList == ([]:List UInt8)))) else (if a0_0 = 3 then (if a0_1 ≤ (-1000000000000000) then (some false) else (if a0_1 ≥ 1000000000000000 then (some false) else (if a0_2 > 0 then (if (Int.tmod a0_1 10) = 0 then (some false) else (some (a0_2 == (mn (mx a0_2 0) 6) && (a0_3.toList == ([]:List UInt8))))) else (some (a0_2 == (mn (mx a0_2 0) 6) && (a0_3.toList == ([]:List UInt8))))))) else (if a0_0 = 4 then (val_Right.j0 k (a0_0 == 4) a0_0 a0_1 a0_2 a0_3 a0_0 0 0 (⟨#[]⟩:ByteArray)) else (val_Right.j0 k (a0_0 == 5) a0_0 a0_1 a0_2 a0_3 a0_0 0 0 (⟨#[]⟩:ByteArray))))))
theorem val_Right.mono_l:∀ k,(∀ y0 y1 y2 y3 y4 y5 y6 y7 y8,LeO (val_Right.j0 k y0 y1 y2 y3 y4 y5 y6 y7 y8) (val_Right.j0 (k + 1) y0 y1 y2 y3 y4 y5 y6 y7 y8))
 | 0=>fun _ _ _ _ _ _ _ _ _ r h=>by simp [val_Right.j0] at h
 | k + 1=>by
  have ih0:=val_Right.mono_l k
  ·intro y0 y1 y2 y3 y4 y5 y6 y7 y8
   unfold val_Right.j0
   repeat' first
   | (with_reducible exact ih0 _ _ _ _ _ _ _ _ _)
   | (with_reducible exact val_printable.mono _ _)
   | (with_reducible exact LeO.refl _)
   | (with_reducible exact LeO.none _)
   | (with_reducible refine LeO.ite ?_ ?_)
   | (with_reducible refine LeO.bind ?_ (fun _=>?_))
   | exact ih0 _ _ _ _ _ _ _ _ _
   | exact val_printable.mono _ _
   | exact LeO.none _
   | refine LeO.ite ?_ ?_
   | refine LeO.bind ?_ (fun _=>?_)
theorem val_Right.mono:∀ a0 a1 a2 a3 k,LeO (val_Right.f k a0 a1 a2 a3) (val_Right.f (k + 1) a0 a1 a2 a3):=by
 intro a0 a1 a2 a3 k
 have ih0:=val_Right.mono_l k
 unfold val_Right.f
 repeat' first
   | (with_reducible exact ih0 _ _ _ _ _ _ _ _ _)
   | (with_reducible exact val_printable.mono _ _)
   | (with_reducible exact LeO.refl _)
   | (with_reducible exact LeO.none _)
   | (with_reducible refine LeO.ite ?_ ?_)
   | (with_reducible refine LeO.bind ?_ (fun _=>?_))
   | exact ih0 _ _ _ _ _ _ _ _ _
   | exact val_printable.mono _ _
   | exact LeO.none _
   | refine LeO.ite ?_ ?_
   | refine LeO.bind ?_ (fun _=>?_)
def val_Right.T10:Bool × List (List Nat × List Nat):=(true,[([],[]),([0],[0]),([],[]),([2],[2]),([3],[3]),([4],[4]),([0,1],[]),([6,1,0,1],[1,6]),([0,1,2,3,4,5,6,7],[]),([8,5,7,0,1,2,3,4,5,6,7],[5,8])])
def val_Right.B10:List Nat:=[0,1,0,4,12,28,3,67,255,511]
theorem val_Right.tab10:rtab .any (opsOf Try.f15 10) = val_Right.T10:=by kernel_rfl
theorem val_Right.bits10:waitsOk val_Right.T10.2 val_Right.B10 = true:=by kernel_rfl
set_option maxHeartbeats 8000000 in
set_option maxRecDepth 100000 in
theorem val_Right.calls (k:Nat) (a0_0:Int) (a0_1:Int) (a0_2:Int) (a0_3:ByteArray) (r:Bool) (w:World) (h:val_Right.f k a0_0 a0_1 a0_2 a0_3 = some r) :
  Calls Try.prog 15 #[.agg #[.int .i64 a0_0, .int .i64 a0_1, .int .i64 a0_2, .string a0_3]] w fun e w'=>e = .returned (.bool r) ∧ Below w.heap.size w w':=by
 have hu23:=Try.underlying23
 have HB:=z_ (Below.refl w.heap.size w)
 have H:(if a0_0 = 0 then (some (a0_1 == 0 && (a0_2 == 0 && (a0_3.toList == ([]:List UInt8))))) else (if a0_0 = 1 then (some (a0_1 == (mn (mx a0_1 0) 1) && (a0_2 == 0 && (a0_3.toList == ([]:List UInt8))))) else (if a0_0 = 2 then (some (a0_2 == 0 && (a0_3.toList == ([]:List UInt8)))) else (if a0_0 = 3 then (if a0_1 ≤ (-1000000000000000) then (some false) else (if a0_1 ≥ 1000000000000000 then (some false) else (if a0_2 > 0 then (if (Int.tmod a0_1 10) = 0 then (some false) else (some (a0_2 == (mn (mx a0_2 0) 6) && (a0_3.toList == ([]:List UInt8))))) else (some (a0_2 == (mn (mx a0_2 0) 6) && (a0_3.toList == ([]:List UInt8))))))) else (if a0_0 = 4 then (val_Right.j0 k (a0_0 == 4) a0_0 a0_1 a0_2 a0_3 a0_0 0 0 (⟨#[]⟩:ByteArray)) else (val_Right.j0 k (a0_0 == 5) a0_0 a0_1 a0_2 a0_3 a0_0 0 0 (⟨#[]⟩:ByteArray))))))) = some r:=h
 clear h
 by_cases c2:a0_0 = 0
 ·rw [if_pos c2] at H
  have c2b0:(a0_0 == 0) = true:=beq_iff_eq.mpr c2
  have c2b1:(a0_0 != 0) = false:=bne_eq_false_iff_eq.mpr c2
  clear c2
  obtain rfl:=Option.some.inj H
  go_enter Try.func15,Try.ntmps15
  go_wp2_with (first|((with_reducible refine gate_dst (N:=1) rfl ?_);refine box_event ?hg (N:=1) ?hd (cs:=#[.int .i64 a0_0, .int .i64 a0_1, .int .i64 a0_2, .string a0_3]) (t:=23) ?hr ?_;(case hd=>rfl);(case hg=>rfl);(case hr=>first|(go_simp;done)|(go_simp;rfl));intro gb101 hg w3 hbox hb;have n0_:=z_ (below_step (by repeat first|(with_reducible first|exact HB.out|apply zA|apply zN|apply z1)|exact HB.out) hb);have n1_:=z_ (hbox);have n2_:=z_ ((by rw [hg];exact (zBs (by repeat first|(with_reducible first|exact HB.out|apply zA|apply zN|apply z1)|exact HB.out)):w.heap.size ≤ gb101));have n3_:=z_ ((by rw [hg];exact (zBs (by repeat first|(with_reducible first|exact HB.out|apply zA|apply zN|apply z1)|exact HB.out)):w.heap.size ≤ gb101));clear HB;have HB:=n0_;have BK101:=n1_;have GW101:=n2_;have GE101:=n3_;clear n0_ n1_ n2_ n3_;clear hb hbox hg;have hcz4_0:w3.cell? ⟨gb101,0,none⟩ = some (.int .i64 a0_0):=(zce BK101.out 0).trans rfl;have hcz4_1:w3.cell? ⟨gb101,1,none⟩ = some (.int .i64 a0_1):=(zce BK101.out 1).trans rfl;have hcz4_2:w3.cell? ⟨gb101,2,none⟩ = some (.int .i64 a0_2):=(zce BK101.out 2).trans rfl;have hcz4_3:w3.cell? ⟨gb101,3,none⟩ = some (.string a0_3):=(zce BK101.out 3).trans rfl;have hfz4_0:=zfz BK101.out 0;have hfz4_1:=zfz BK101.out 1;have hfz4_2:=zfz BK101.out 2;have hfz4_3:=zfz BK101.out 3)|((with_reducible refine gate_dst (N:=3) rfl ?_);refine box_event ?hg (N:=3) ?hd (cs:=#[.int .i64 0, .int .i64 0, .int .i64 0, .string (⟨#[]⟩:ByteArray)]) (t:=23) ?hr ?_;(case hd=>rfl);(case hg=>rfl);(case hr=>first|(go_simp;done)|(go_simp;rfl));intro gb102 hg w5 hbox hb;have n0_:=z_ (zbb (g:=gb101) (o:=.cells #[.int .i64 a0_0, .int .i64 a0_1, .int .i64 a0_2, .string a0_3] 23 (0,0)) (by (with_reducible repeat first|apply zbN|apply zb1|apply zbA);exact BK101.out) hb);have n1_:=z_ (below_step (by repeat first|(with_reducible first|exact HB.out|apply zA|apply zN|apply z1|refine zS ?_ GE101.out)|exact HB.out) hb);have n2_:=z_ (hbox);have n3_:=z_ ((by rw [hg];exact (zBs (by repeat first|(with_reducible first|exact HB.out|apply zA|apply zN|apply z1|refine zS ?_ GE101.out)|exact HB.out)):w.heap.size ≤ gb102));have n4_:=z_ ((by rw [hg];exact (zBs (by repeat first|(with_reducible first|exact HB.out|apply zA|apply zN|apply z1|refine zS ?_ GE101.out)|exact HB.out)):w.heap.size ≤ gb102));have n5_:=z_ ((by rw [hg];exact Nat.ne_of_lt (blk_lt (g:=gb101) (o:=.cells #[.int .i64 a0_0, .int .i64 a0_1, .int .i64 a0_2, .string a0_3] 23 (0,0)) (by (with_reducible repeat first|apply zbN|apply zb1|apply zbA);exact BK101.out)):gb101 ≠ gb102));have n6_:=z_ ((by rw [hg];exact Nat.ne_of_gt (blk_lt (g:=gb101) (o:=.cells #[.int .i64 a0_0, .int .i64 a0_1, .int .i64 a0_2, .string a0_3] 23 (0,0)) (by (with_reducible repeat first|apply zbN|apply zb1|apply zbA);exact BK101.out)):gb102 ≠ gb101));clear BK101;clear HB;have BK101:=n0_;have HB:=n1_;have BK102:=n2_;have GW102:=n3_;have GE102:=n4_;have NB101_102:=n5_;have NB102_101:=n6_;clear n0_ n1_ n2_ n3_ n4_ n5_ n6_;clear hb hbox hg;have hnb6:=NB102_101.out;have hnc6:=NB101_102.out;have hcz7_0:w5.cell? ⟨gb102,0,none⟩ = some (.int .i64 0):=(zce BK102.out 0).trans rfl;have hcz7_1:w5.cell? ⟨gb102,1,none⟩ = some (.int .i64 0):=(zce BK102.out 1).trans rfl;have hcz7_2:w5.cell? ⟨gb102,2,none⟩ = some (.int .i64 0):=(zce BK102.out 2).trans rfl;have hcz7_3:w5.cell? ⟨gb102,3,none⟩ = some (.string (⟨#[]⟩:ByteArray)):=(zce BK102.out 3).trans rfl;have hfz7_0:=zfz BK102.out 0;have hfz7_1:=zfz BK102.out 1;have hfz7_2:=zfz BK102.out 2;have hfz7_3:=zfz BK102.out 3;have hcz8_0:w5.cell? ⟨gb101,0,none⟩ = some (.int .i64 a0_0):=(zce BK101.out 0).trans rfl;have hcz8_1:w5.cell? ⟨gb101,1,none⟩ = some (.int .i64 a0_1):=(zce BK101.out 1).trans rfl;have hcz8_2:w5.cell? ⟨gb101,2,none⟩ = some (.int .i64 a0_2):=(zce BK101.out 2).trans rfl;have hcz8_3:w5.cell? ⟨gb101,3,none⟩ = some (.string a0_3):=(zce BK101.out 3).trans rfl;have hfz8_0:=zfz BK101.out 0;have hfz8_1:=zfz BK101.out 1;have hfz8_2:=zfz BK101.out 2;have hfz8_3:=zfz BK101.out 3))
  go_ret
  exact ⟨by first|rfl|(simp [errW_none,errW_some] <;> rfl)|(simp [*,errW_none,errW_some] <;> rfl),by repeat first|(with_reducible first|exact HB.out|apply zA|apply zN|apply z1|refine zS ?_ GE101.out|refine zS ?_ GE102.out)|exact HB.out⟩
 ·rw [if_neg c2] at H
  have c2b0:(a0_0 == 0) = false:=beq_eq_false_iff_ne.mpr c2
  have c2b1:(a0_0 != 0) = true:=bne_iff_ne.mpr c2
  by_cases c9:a0_0 = 1
  ·rw [if_pos c9] at H
   have c9b0:(a0_0 == 1) = true:=beq_iff_eq.mpr c9
   have c9b1:(a0_0 != 1) = false:=bne_eq_false_iff_eq.mpr c9
   clear c9
   obtain ⟨ji10,hji10⟩:∃ j_:Int,(mx a0_1 0) = j_:=⟨_,rfl⟩
   replace H:(some (a0_1 == (mn (ji10) 1) && (a0_2 == 0 && (a0_3.toList == ([]:List UInt8))))) = some r:=by first|(rw [hji10] at H;exact H)|(simp only [hji10] at H ⊢;exact H)
   (try (have hji10l:0 ≤ ji10:=by (rw [← hji10];unfold mx;(repeat' split) <;> omega)))
   (try (have hji10m:0 ≤ ji10:=by omega))
   have hji10_:(if a0_1 < 0 then 0 else a0_1) = ji10:=hji10
   obtain ⟨ji11,hji11⟩:∃ j_:Int,(mn (ji10) 1) = j_:=⟨_,rfl⟩
   replace H:(some (a0_1 == (ji11) && (a0_2 == 0 && (a0_3.toList == ([]:List UInt8))))) = some r:=by first|(rw [hji11] at H;exact H)|(simp only [hji11] at H ⊢;exact H)
   have hji11_:(if 1 < (ji10) then 1 else (ji10)) = ji11:=hji11
   obtain rfl:=Option.some.inj H
   go_enter Try.func15,Try.ntmps15
   go_wp2_with (first|((with_reducible refine gate_dst (N:=1) rfl ?_);refine box_event ?hg (N:=1) ?hd (cs:=#[.int .i64 a0_0, .int .i64 a0_1, .int .i64 a0_2, .string a0_3]) (t:=23) ?hr ?_;(case hd=>rfl);(case hg=>rfl);(case hr=>first|(go_simp;done)|(go_simp;rfl));intro gb101 hg w12 hbox hb;have n0_:=z_ (below_step (by repeat first|(with_reducible first|exact HB.out|apply zA|apply zN|apply z1)|exact HB.out) hb);have n1_:=z_ (hbox);have n2_:=z_ ((by rw [hg];exact (zBs (by repeat first|(with_reducible first|exact HB.out|apply zA|apply zN|apply z1)|exact HB.out)):w.heap.size ≤ gb101));have n3_:=z_ ((by rw [hg];exact (zBs (by repeat first|(with_reducible first|exact HB.out|apply zA|apply zN|apply z1)|exact HB.out)):w.heap.size ≤ gb101));clear HB;have HB:=n0_;have BK101:=n1_;have GW101:=n2_;have GE101:=n3_;clear n0_ n1_ n2_ n3_;clear hb hbox hg;have hcz13_0:w12.cell? ⟨gb101,0,none⟩ = some (.int .i64 a0_0):=(zce BK101.out 0).trans rfl;have hcz13_1:w12.cell? ⟨gb101,1,none⟩ = some (.int .i64 a0_1):=(zce BK101.out 1).trans rfl;have hcz13_2:w12.cell? ⟨gb101,2,none⟩ = some (.int .i64 a0_2):=(zce BK101.out 2).trans rfl;have hcz13_3:w12.cell? ⟨gb101,3,none⟩ = some (.string a0_3):=(zce BK101.out 3).trans rfl;have hfz13_0:=zfz BK101.out 0;have hfz13_1:=zfz BK101.out 1;have hfz13_2:=zfz BK101.out 2;have hfz13_3:=zfz BK101.out 3)|((with_reducible refine gate_dst (N:=3) rfl ?_);refine box_event ?hg (N:=3) ?hd (cs:=#[.int .i64 0, .int .i64 0, .int .i64 0, .string (⟨#[]⟩:ByteArray)]) (t:=23) ?hr ?_;(case hd=>rfl);(case hg=>rfl);(case hr=>first|(go_simp;done)|(go_simp;rfl));intro gb102 hg w14 hbox hb;have n0_:=z_ (zbb (g:=gb101) (o:=.cells #[.int .i64 a0_0, .int .i64 a0_1, .int .i64 a0_2, .string a0_3] 23 (0,0)) (by (with_reducible repeat first|apply zbN|apply zb1|apply zbA);exact BK101.out) hb);have n1_:=z_ (below_step (by repeat first|(with_reducible first|exact HB.out|apply zA|apply zN|apply z1|refine zS ?_ GE101.out)|exact HB.out) hb);have n2_:=z_ (hbox);have n3_:=z_ ((by rw [hg];exact (zBs (by repeat first|(with_reducible first|exact HB.out|apply zA|apply zN|apply z1|refine zS ?_ GE101.out)|exact HB.out)):w.heap.size ≤ gb102));have n4_:=z_ ((by rw [hg];exact (zBs (by repeat first|(with_reducible first|exact HB.out|apply zA|apply zN|apply z1|refine zS ?_ GE101.out)|exact HB.out)):w.heap.size ≤ gb102));have n5_:=z_ ((by rw [hg];exact Nat.ne_of_lt (blk_lt (g:=gb101) (o:=.cells #[.int .i64 a0_0, .int .i64 a0_1, .int .i64 a0_2, .string a0_3] 23 (0,0)) (by (with_reducible repeat first|apply zbN|apply zb1|apply zbA);exact BK101.out)):gb101 ≠ gb102));have n6_:=z_ ((by rw [hg];exact Nat.ne_of_gt (blk_lt (g:=gb101) (o:=.cells #[.int .i64 a0_0, .int .i64 a0_1, .int .i64 a0_2, .string a0_3] 23 (0,0)) (by (with_reducible repeat first|apply zbN|apply zb1|apply zbA);exact BK101.out)):gb102 ≠ gb101));clear BK101;clear HB;have BK101:=n0_;have HB:=n1_;have BK102:=n2_;have GW102:=n3_;have GE102:=n4_;have NB101_102:=n5_;have NB102_101:=n6_;clear n0_ n1_ n2_ n3_ n4_ n5_ n6_;clear hb hbox hg;have hnb15:=NB102_101.out;have hnc15:=NB101_102.out;have hcz16_0:w14.cell? ⟨gb102,0,none⟩ = some (.int .i64 0):=(zce BK102.out 0).trans rfl;have hcz16_1:w14.cell? ⟨gb102,1,none⟩ = some (.int .i64 0):=(zce BK102.out 1).trans rfl;have hcz16_2:w14.cell? ⟨gb102,2,none⟩ = some (.int .i64 0):=(zce BK102.out 2).trans rfl;have hcz16_3:w14.cell? ⟨gb102,3,none⟩ = some (.string (⟨#[]⟩:ByteArray)):=(zce BK102.out 3).trans rfl;have hfz16_0:=zfz BK102.out 0;have hfz16_1:=zfz BK102.out 1;have hfz16_2:=zfz BK102.out 2;have hfz16_3:=zfz BK102.out 3;have hcz17_0:w14.cell? ⟨gb101,0,none⟩ = some (.int .i64 a0_0):=(zce BK101.out 0).trans rfl;have hcz17_1:w14.cell? ⟨gb101,1,none⟩ = some (.int .i64 a0_1):=(zce BK101.out 1).trans rfl;have hcz17_2:w14.cell? ⟨gb101,2,none⟩ = some (.int .i64 a0_2):=(zce BK101.out 2).trans rfl;have hcz17_3:w14.cell? ⟨gb101,3,none⟩ = some (.string a0_3):=(zce BK101.out 3).trans rfl;have hfz17_0:=zfz BK101.out 0;have hfz17_1:=zfz BK101.out 1;have hfz17_2:=zfz BK101.out 2;have hfz17_3:=zfz BK101.out 3))
   go_ret
   exact ⟨by first|rfl|(simp [errW_none,errW_some] <;> rfl)|(simp only [← hji10,← hji11];first|rfl|(simp [errW_none,errW_some] <;> rfl))|(simp [*,errW_none,errW_some] <;> rfl),by repeat first|(with_reducible first|exact HB.out|apply zA|apply zN|apply z1|refine zS ?_ GE101.out|refine zS ?_ GE102.out)|exact HB.out⟩
  ·rw [if_neg c9] at H
   have c9b0:(a0_0 == 1) = false:=beq_eq_false_iff_ne.mpr c9
   have c9b1:(a0_0 != 1) = true:=bne_iff_ne.mpr c9
   by_cases c18:a0_0 = 2
   ·rw [if_pos c18] at H
    have c18b0:(a0_0 == 2) = true:=beq_iff_eq.mpr c18
    have c18b1:(a0_0 != 2) = false:=bne_eq_false_iff_eq.mpr c18
    clear c18
    obtain rfl:=Option.some.inj H
    go_enter Try.func15,Try.ntmps15
    go_wp2_with (first|((with_reducible refine gate_dst (N:=1) rfl ?_);refine box_event ?hg (N:=1) ?hd (cs:=#[.int .i64 a0_0, .int .i64 a0_1, .int .i64 a0_2, .string a0_3]) (t:=23) ?hr ?_;(case hd=>rfl);(case hg=>rfl);(case hr=>first|(go_simp;done)|(go_simp;rfl));intro gb101 hg w19 hbox hb;have n0_:=z_ (below_step (by repeat first|(with_reducible first|exact HB.out|apply zA|apply zN|apply z1)|exact HB.out) hb);have n1_:=z_ (hbox);have n2_:=z_ ((by rw [hg];exact (zBs (by repeat first|(with_reducible first|exact HB.out|apply zA|apply zN|apply z1)|exact HB.out)):w.heap.size ≤ gb101));have n3_:=z_ ((by rw [hg];exact (zBs (by repeat first|(with_reducible first|exact HB.out|apply zA|apply zN|apply z1)|exact HB.out)):w.heap.size ≤ gb101));clear HB;have HB:=n0_;have BK101:=n1_;have GW101:=n2_;have GE101:=n3_;clear n0_ n1_ n2_ n3_;clear hb hbox hg;have hcz20_0:w19.cell? ⟨gb101,0,none⟩ = some (.int .i64 a0_0):=(zce BK101.out 0).trans rfl;have hcz20_1:w19.cell? ⟨gb101,1,none⟩ = some (.int .i64 a0_1):=(zce BK101.out 1).trans rfl;have hcz20_2:w19.cell? ⟨gb101,2,none⟩ = some (.int .i64 a0_2):=(zce BK101.out 2).trans rfl;have hcz20_3:w19.cell? ⟨gb101,3,none⟩ = some (.string a0_3):=(zce BK101.out 3).trans rfl;have hfz20_0:=zfz BK101.out 0;have hfz20_1:=zfz BK101.out 1;have hfz20_2:=zfz BK101.out 2;have hfz20_3:=zfz BK101.out 3)|((with_reducible refine gate_dst (N:=3) rfl ?_);refine box_event ?hg (N:=3) ?hd (cs:=#[.int .i64 0, .int .i64 0, .int .i64 0, .string (⟨#[]⟩:ByteArray)]) (t:=23) ?hr ?_;(case hd=>rfl);(case hg=>rfl);(case hr=>first|(go_simp;done)|(go_simp;rfl));intro gb102 hg w21 hbox hb;have n0_:=z_ (zbb (g:=gb101) (o:=.cells #[.int .i64 a0_0, .int .i64 a0_1, .int .i64 a0_2, .string a0_3] 23 (0,0)) (by (with_reducible repeat first|apply zbN|apply zb1|apply zbA);exact BK101.out) hb);have n1_:=z_ (below_step (by repeat first|(with_reducible first|exact HB.out|apply zA|apply zN|apply z1|refine zS ?_ GE101.out)|exact HB.out) hb);have n2_:=z_ (hbox);have n3_:=z_ ((by rw [hg];exact (zBs (by repeat first|(with_reducible first|exact HB.out|apply zA|apply zN|apply z1|refine zS ?_ GE101.out)|exact HB.out)):w.heap.size ≤ gb102));have n4_:=z_ ((by rw [hg];exact (zBs (by repeat first|(with_reducible first|exact HB.out|apply zA|apply zN|apply z1|refine zS ?_ GE101.out)|exact HB.out)):w.heap.size ≤ gb102));have n5_:=z_ ((by rw [hg];exact Nat.ne_of_lt (blk_lt (g:=gb101) (o:=.cells #[.int .i64 a0_0, .int .i64 a0_1, .int .i64 a0_2, .string a0_3] 23 (0,0)) (by (with_reducible repeat first|apply zbN|apply zb1|apply zbA);exact BK101.out)):gb101 ≠ gb102));have n6_:=z_ ((by rw [hg];exact Nat.ne_of_gt (blk_lt (g:=gb101) (o:=.cells #[.int .i64 a0_0, .int .i64 a0_1, .int .i64 a0_2, .string a0_3] 23 (0,0)) (by (with_reducible repeat first|apply zbN|apply zb1|apply zbA);exact BK101.out)):gb102 ≠ gb101));clear BK101;clear HB;have BK101:=n0_;have HB:=n1_;have BK102:=n2_;have GW102:=n3_;have GE102:=n4_;have NB101_102:=n5_;have NB102_101:=n6_;clear n0_ n1_ n2_ n3_ n4_ n5_ n6_;clear hb hbox hg;have hnb22:=NB102_101.out;have hnc22:=NB101_102.out;have hcz23_0:w21.cell? ⟨gb102,0,none⟩ = some (.int .i64 0):=(zce BK102.out 0).trans rfl;have hcz23_1:w21.cell? ⟨gb102,1,none⟩ = some (.int .i64 0):=(zce BK102.out 1).trans rfl;have hcz23_2:w21.cell? ⟨gb102,2,none⟩ = some (.int .i64 0):=(zce BK102.out 2).trans rfl;have hcz23_3:w21.cell? ⟨gb102,3,none⟩ = some (.string (⟨#[]⟩:ByteArray)):=(zce BK102.out 3).trans rfl;have hfz23_0:=zfz BK102.out 0;have hfz23_1:=zfz BK102.out 1;have hfz23_2:=zfz BK102.out 2;have hfz23_3:=zfz BK102.out 3;have hcz24_0:w21.cell? ⟨gb101,0,none⟩ = some (.int .i64 a0_0):=(zce BK101.out 0).trans rfl;have hcz24_1:w21.cell? ⟨gb101,1,none⟩ = some (.int .i64 a0_1):=(zce BK101.out 1).trans rfl;have hcz24_2:w21.cell? ⟨gb101,2,none⟩ = some (.int .i64 a0_2):=(zce BK101.out 2).trans rfl;have hcz24_3:w21.cell? ⟨gb101,3,none⟩ = some (.string a0_3):=(zce BK101.out 3).trans rfl;have hfz24_0:=zfz BK101.out 0;have hfz24_1:=zfz BK101.out 1;have hfz24_2:=zfz BK101.out 2;have hfz24_3:=zfz BK101.out 3))
    go_ret
    exact ⟨by first|rfl|(simp [errW_none,errW_some] <;> rfl)|(simp [*,errW_none,errW_some] <;> rfl),by repeat first|(with_reducible first|exact HB.out|apply zA|apply zN|apply z1|refine zS ?_ GE101.out|refine zS ?_ GE102.out)|exact HB.out⟩
   ·rw [if_neg c18] at H
    have c18b0:(a0_0 == 2) = false:=beq_eq_false_iff_ne.mpr c18
    have c18b1:(a0_0 != 2) = true:=bne_iff_ne.mpr c18
    by_cases c25:a0_0 = 3
    ·rw [if_pos c25] at H
     have c25b0:(a0_0 == 3) = true:=beq_iff_eq.mpr c25
     have c25b1:(a0_0 != 3) = false:=bne_eq_false_iff_eq.mpr c25
     clear c25
     obtain ⟨ji26,hji26⟩:∃ j_:Int,(mx a0_2 0) = j_:=⟨_,rfl⟩
     replace H:(if a0_1 ≤ (-1000000000000000) then (some false) else (if a0_1 ≥ 1000000000000000 then (some false) else (if a0_2 > 0 then (if (Int.tmod a0_1 10) = 0 then (some false) else (some (a0_2 == (mn (ji26) 6) && (a0_3.toList == ([]:List UInt8))))) else (some (a0_2 == (mn (ji26) 6) && (a0_3.toList == ([]:List UInt8))))))) = some r:=by first|(rw [hji26] at H;exact H)|(simp only [hji26] at H ⊢;exact H)
     (try (have hji26l:0 ≤ ji26:=by (rw [← hji26];unfold mx;(repeat' split) <;> omega)))
     (try (have hji26m:0 ≤ ji26:=by omega))
     have hji26_:(if a0_2 < 0 then 0 else a0_2) = ji26:=hji26
     obtain ⟨ji27,hji27⟩:∃ j_:Int,(mn (ji26) 6) = j_:=⟨_,rfl⟩
     replace H:(if a0_1 ≤ (-1000000000000000) then (some false) else (if a0_1 ≥ 1000000000000000 then (some false) else (if a0_2 > 0 then (if (Int.tmod a0_1 10) = 0 then (some false) else (some (a0_2 == (ji27) && (a0_3.toList == ([]:List UInt8))))) else (some (a0_2 == (ji27) && (a0_3.toList == ([]:List UInt8))))))) = some r:=by first|(rw [hji27] at H;exact H)|(simp only [hji27] at H ⊢;exact H)
     have hji27_:(if 6 < (ji26) then 6 else (ji26)) = ji27:=hji27
     by_cases c28:a0_1 ≤ (-1000000000000000)
     focus
      rw [if_pos c28] at H
      have c28b0:decide (a0_1 ≤ (-1000000000000000)) = true:=decide_eq_true c28
      clear c28
      obtain rfl:=Option.some.inj H
     rotate_left
     focus
      rw [if_neg c28] at H
      have c28b0:decide (a0_1 ≤ (-1000000000000000)) = false:=decide_eq_false c28
      clear c28
      by_cases c40:a0_1 ≥ 1000000000000000
      focus
       rw [if_pos c40] at H
       have c40b0:decide (1000000000000000 ≤ a0_1) = true:=decide_eq_true c40
       clear c40
       obtain rfl:=Option.some.inj H
      rotate_left
      focus
       rw [if_neg c40] at H
       have c40b0:decide (1000000000000000 ≤ a0_1) = false:=decide_eq_false c40
       clear c40
       by_cases c52:a0_2 > 0
       focus
        rw [if_pos c52] at H
        have c52b0:decide (0 < a0_2) = true:=decide_eq_true c52
        clear c52
        by_cases c53:(Int.tmod a0_1 10) = 0
        focus
         rw [if_pos c53] at H
         have c53b0:((Int.tmod a0_1 10) == 0) = true:=beq_iff_eq.mpr c53
         have c53b1:((Int.tmod a0_1 10) != 0) = false:=bne_eq_false_iff_eq.mpr c53
         clear c53
         obtain rfl:=Option.some.inj H
        rotate_left
        focus
         rw [if_neg c53] at H
         have c53b0:((Int.tmod a0_1 10) == 0) = false:=beq_eq_false_iff_ne.mpr c53
         have c53b1:((Int.tmod a0_1 10) != 0) = true:=bne_iff_ne.mpr c53
         obtain rfl:=Option.some.inj H
        rotate_left
       rotate_left 2
       focus
        rw [if_neg c52] at H
        have c52b0:decide (0 < a0_2) = false:=decide_eq_false c52
        clear c52
        obtain rfl:=Option.some.inj H
       rotate_left
      rotate_left 3
     rotate_left 4
     all_goals
      go_enter Try.func15,Try.ntmps15
      try go_wp2_with (first|((with_reducible refine gate_dst (N:=1) rfl ?_);refine box_event ?hg (N:=1) ?hd (cs:=#[.int .i64 a0_0, .int .i64 a0_1, .int .i64 a0_2, .string a0_3]) (t:=23) ?hr ?_;(case hd=>rfl);(case hg=>rfl);(case hr=>first|(go_simp;done)|(go_simp;rfl));intro gb101 hg w29 hbox hb;have n0_:=z_ (below_step (by repeat first|(with_reducible first|exact HB.out|apply zA|apply zN|apply z1)|exact HB.out) hb);have n1_:=z_ (hbox);have n2_:=z_ ((by rw [hg];exact (zBs (by repeat first|(with_reducible first|exact HB.out|apply zA|apply zN|apply z1)|exact HB.out)):w.heap.size ≤ gb101));have n3_:=z_ ((by rw [hg];exact (zBs (by repeat first|(with_reducible first|exact HB.out|apply zA|apply zN|apply z1)|exact HB.out)):w.heap.size ≤ gb101));clear HB;have HB:=n0_;have BK101:=n1_;have GW101:=n2_;have GE101:=n3_;clear n0_ n1_ n2_ n3_;clear hb hbox hg;have hcz30_0:w29.cell? ⟨gb101,0,none⟩ = some (.int .i64 a0_0):=(zce BK101.out 0).trans rfl;have hcz30_1:w29.cell? ⟨gb101,1,none⟩ = some (.int .i64 a0_1):=(zce BK101.out 1).trans rfl;have hcz30_2:w29.cell? ⟨gb101,2,none⟩ = some (.int .i64 a0_2):=(zce BK101.out 2).trans rfl;have hcz30_3:w29.cell? ⟨gb101,3,none⟩ = some (.string a0_3):=(zce BK101.out 3).trans rfl;have hfz30_0:=zfz BK101.out 0;have hfz30_1:=zfz BK101.out 1;have hfz30_2:=zfz BK101.out 2;have hfz30_3:=zfz BK101.out 3)|((with_reducible refine gate_dst (N:=3) rfl ?_);refine box_event ?hg (N:=3) ?hd (cs:=#[.int .i64 0, .int .i64 0, .int .i64 0, .string (⟨#[]⟩:ByteArray)]) (t:=23) ?hr ?_;(case hd=>rfl);(case hg=>rfl);(case hr=>first|(go_simp;done)|(go_simp;rfl));intro gb102 hg w31 hbox hb;have n0_:=z_ (zbb (g:=gb101) (o:=.cells #[.int .i64 a0_0, .int .i64 a0_1, .int .i64 a0_2, .string a0_3] 23 (0,0)) (by (with_reducible repeat first|apply zbN|apply zb1|apply zbA);exact BK101.out) hb);have n1_:=z_ (below_step (by repeat first|(with_reducible first|exact HB.out|apply zA|apply zN|apply z1|refine zS ?_ GE101.out)|exact HB.out) hb);have n2_:=z_ (hbox);have n3_:=z_ ((by rw [hg];exact (zBs (by repeat first|(with_reducible first|exact HB.out|apply zA|apply zN|apply z1|refine zS ?_ GE101.out)|exact HB.out)):w.heap.size ≤ gb102));have n4_:=z_ ((by rw [hg];exact (zBs (by repeat first|(with_reducible first|exact HB.out|apply zA|apply zN|apply z1|refine zS ?_ GE101.out)|exact HB.out)):w.heap.size ≤ gb102));have n5_:=z_ ((by rw [hg];exact Nat.ne_of_lt (blk_lt (g:=gb101) (o:=.cells #[.int .i64 a0_0, .int .i64 a0_1, .int .i64 a0_2, .string a0_3] 23 (0,0)) (by (with_reducible repeat first|apply zbN|apply zb1|apply zbA);exact BK101.out)):gb101 ≠ gb102));have n6_:=z_ ((by rw [hg];exact Nat.ne_of_gt (blk_lt (g:=gb101) (o:=.cells #[.int .i64 a0_0, .int .i64 a0_1, .int .i64 a0_2, .string a0_3] 23 (0,0)) (by (with_reducible repeat first|apply zbN|apply zb1|apply zbA);exact BK101.out)):gb102 ≠ gb101));clear BK101;clear HB;have BK101:=n0_;have HB:=n1_;have BK102:=n2_;have GW102:=n3_;have GE102:=n4_;have NB101_102:=n5_;have NB102_101:=n6_;clear n0_ n1_ n2_ n3_ n4_ n5_ n6_;clear hb hbox hg;have hnb32:=NB102_101.out;have hnc32:=NB101_102.out;have hcz33_0:w31.cell? ⟨gb102,0,none⟩ = some (.int .i64 0):=(zce BK102.out 0).trans rfl;have hcz33_1:w31.cell? ⟨gb102,1,none⟩ = some (.int .i64 0):=(zce BK102.out 1).trans rfl;have hcz33_2:w31.cell? ⟨gb102,2,none⟩ = some (.int .i64 0):=(zce BK102.out 2).trans rfl;have hcz33_3:w31.cell? ⟨gb102,3,none⟩ = some (.string (⟨#[]⟩:ByteArray)):=(zce BK102.out 3).trans rfl;have hfz33_0:=zfz BK102.out 0;have hfz33_1:=zfz BK102.out 1;have hfz33_2:=zfz BK102.out 2;have hfz33_3:=zfz BK102.out 3;have hcz34_0:w31.cell? ⟨gb101,0,none⟩ = some (.int .i64 a0_0):=(zce BK101.out 0).trans rfl;have hcz34_1:w31.cell? ⟨gb101,1,none⟩ = some (.int .i64 a0_1):=(zce BK101.out 1).trans rfl;have hcz34_2:w31.cell? ⟨gb101,2,none⟩ = some (.int .i64 a0_2):=(zce BK101.out 2).trans rfl;have hcz34_3:w31.cell? ⟨gb101,3,none⟩ = some (.string a0_3):=(zce BK101.out 3).trans rfl;have hfz34_0:=zfz BK101.out 0;have hfz34_1:=zfz BK101.out 1;have hfz34_2:=zfz BK101.out 2;have hfz34_3:=zfz BK101.out 3))
      have n0_:Aside0 (((((w31.setCell ⟨gb102,0,none⟩ (.int .i64 a0_0)).setCell ⟨gb102,1,none⟩ (.int .i64 0)).setCell ⟨gb102,2,none⟩ (.int .i64 0)).setCell ⟨gb102,3,none⟩ (.string (⟨#[]⟩:ByteArray))).heap[gb101]? = some (.cells #[.int .i64 a0_0, .int .i64 a0_1, .int .i64 a0_2, .string a0_3] 23 (0,0))):=⟨by (with_reducible repeat first|apply zbN|apply zb1|apply zbA);refine zbf ?_ NB101_102.out _;(with_reducible repeat first|apply zbN|apply zb1|apply zbA);refine zbf ?_ NB101_102.out _;(with_reducible repeat first|apply zbN|apply zb1|apply zbA);refine zbf ?_ NB101_102.out _;(with_reducible repeat first|apply zbN|apply zb1|apply zbA);refine zbf ?_ NB101_102.out _;(with_reducible repeat first|apply zbN|apply zb1|apply zbA);exact BK101.out⟩
      have n1_:Aside0 (((((w31.setCell ⟨gb102,0,none⟩ (.int .i64 a0_0)).setCell ⟨gb102,1,none⟩ (.int .i64 0)).setCell ⟨gb102,2,none⟩ (.int .i64 0)).setCell ⟨gb102,3,none⟩ (.string (⟨#[]⟩:ByteArray))).heap[gb102]? = some (.cells #[.int .i64 a0_0, .int .i64 0, .int .i64 0, .string (⟨#[]⟩:ByteArray)] 23 (0,0))):=⟨by (with_reducible repeat first|apply zbN|apply zb1|apply zbA);refine zbp (cs:=#[.int .i64 a0_0, .int .i64 0, .int .i64 0, .string (⟨#[]⟩:ByteArray)]) ?_ 3 _ rfl;(with_reducible repeat first|apply zbN|apply zb1|apply zbA);refine zbp (cs:=#[.int .i64 a0_0, .int .i64 0, .int .i64 0, .string (⟨#[]⟩:ByteArray)]) ?_ 2 _ rfl;(with_reducible repeat first|apply zbN|apply zb1|apply zbA);refine zbp (cs:=#[.int .i64 a0_0, .int .i64 0, .int .i64 0, .string (⟨#[]⟩:ByteArray)]) ?_ 1 _ rfl;(with_reducible repeat first|apply zbN|apply zb1|apply zbA);refine zbp (cs:=#[.int .i64 0, .int .i64 0, .int .i64 0, .string (⟨#[]⟩:ByteArray)]) ?_ 0 _ rfl;(with_reducible repeat first|apply zbN|apply zb1|apply zbA);exact BK102.out⟩
      have n2_:Aside0 (Below w.heap.size w ((((w31.setCell ⟨gb102,0,none⟩ (.int .i64 a0_0)).setCell ⟨gb102,1,none⟩ (.int .i64 0)).setCell ⟨gb102,2,none⟩ (.int .i64 0)).setCell ⟨gb102,3,none⟩ (.string (⟨#[]⟩:ByteArray)))):=⟨by repeat first|(with_reducible first|exact HB.out|apply zA|apply zN|apply z1|refine zS ?_ GE101.out|refine zS ?_ GE102.out)|exact HB.out⟩
      (try clear BK101)
      (try clear BK102)
      (try clear HB)
      generalize ((((w31.setCell ⟨gb102,0,none⟩ (.int .i64 a0_0)).setCell ⟨gb102,1,none⟩ (.int .i64 0)).setCell ⟨gb102,2,none⟩ (.int .i64 0)).setCell ⟨gb102,3,none⟩ (.string (⟨#[]⟩:ByteArray))) = w35 at n0_ n1_ n2_ ⊢
      have BK101:=n0_
      have BK102:=n1_
      have HB:=n2_
      clear n0_ n1_ n2_
      have n0_:=z_ (zb1 BK101.out)
      have n1_:=z_ (zb1 BK102.out)
      have n2_:=z_ (z1 HB.out)
      clear BK101
      clear BK102
      clear HB
      have BK101:=n0_
      have BK102:=n1_
      have HB:=n2_
      clear n0_ n1_ n2_
      refine start_ (n:=10) (S:=fun w'=>w'.cell? ⟨gb101,0,none⟩ = some (.int .i64 a0_0) ∧ w'.cell? ⟨gb101,1,none⟩ = some (.int .i64 a0_1) ∧ w'.cell? ⟨gb101,2,none⟩ = some (.int .i64 a0_2) ∧ w'.cell? ⟨gb101,3,none⟩ = some (.string a0_3)) (ds:=[]) #[false,false,false,false,false,false,false,false,false,false] (by kernel_rfl) rfl rfl ⟨(zce BK101.out 0).trans rfl,(zce BK101.out 1).trans rfl,(zce BK101.out 2).trans rfl,(zce BK101.out 3).trans rfl⟩ (fun hHeld=>?_);refine with_tabW val_Right.tab10 val_Right.bits10 (fun HT_ HW_=>?_)
      generalize w35.drew = w36 at BK101 BK102 HB hHeld ⊢
      refine pure_ (i:=0) (N:=some 25) (v:=?_) (a':=?_) #[true,false,false,false,false,false,false,false,false,false] rfl rfl (any_of HT_.out (by kernel_rfl)) (fun _ _ _ h=>h) (Or.inl ⟨by rfl,?_⟩) ?_ ?_
      rotate_left
      ·intro w'
       go_simp
       with_reducible rfl
      rotate_left
      ·simp only [Act.put,List.setIfInBounds_toArray,List.set_cons_zero,List.set_cons_succ,i64_w,i32_w]
       rfl
      refine pure_ (i:=2) (N:=some 27) (v:=?_) (a':=?_) #[true,false,true,false,false,false,false,false,false,false] rfl rfl (any_of HT_.out (by kernel_rfl)) (fun _ _ _ h=>h) (Or.inl ⟨by rfl,?_⟩) ?_ ?_
      rotate_left
      ·intro w'
       go_simp
       with_reducible rfl
      rotate_left
      ·simp only [Act.put,List.setIfInBounds_toArray,List.set_cons_zero,List.set_cons_succ,i64_w,i32_w]
       rfl
      refine take_ (i:=1) (N:=some 26) (v:=?_) (a':=?_) #[true,true,true,false,false,false,false,false,false,false] rfl rfl (take_ofW HT_.out HW_.out (by kernel_rfl)) (fun _ _ _ h=>h) (Or.inl ⟨by rfl,?_⟩) hHeld ?_ ?_
      rotate_left
      ·rintro w' ⟨s0,s1,s2,s3⟩
       go_simp
       with_reducible rfl
      rotate_left
      ·simp only [Act.put,List.setIfInBounds_toArray,List.set_cons_zero,List.set_cons_succ,i64_w,i32_w]
       rfl
      refine pure_ (i:=6) (N:=some 31) (v:=?_) (a':=?_) #[true,true,true,false,false,false,true,false,false,false] rfl rfl (any_of HT_.out (by kernel_rfl)) (fun _ _ _ h=>h) (Or.inl ⟨by rfl,?_⟩) ?_ ?_
      rotate_left
      ·intro w'
       go_simp
       with_reducible rfl
      rotate_left
      ·simp only [Act.put,List.setIfInBounds_toArray,List.set_cons_zero,List.set_cons_succ,i64_w,i32_w]
       rfl
      refine take_ (i:=3) (N:=some 28) (v:=?_) (a':=?_) #[true,true,true,true,false,false,true,false,false,false] rfl rfl (take_ofW HT_.out HW_.out (by kernel_rfl)) (fun _ _ _ h=>h) (Or.inl ⟨by rfl,?_⟩) hHeld ?_ ?_
      rotate_left
      ·rintro w' ⟨s0,s1,s2,s3⟩
       go_simp
       with_reducible rfl
      rotate_left
      ·simp only [Act.put,List.setIfInBounds_toArray,List.set_cons_zero,List.set_cons_succ,i64_w,i32_w]
       rfl
      refine pure_ (i:=4) (N:=some 29) (v:=?_) (a':=?_) #[true,true,true,true,true,false,true,false,false,false] rfl rfl (any_of HT_.out (by kernel_rfl)) (fun _ _ _ h=>h) (Or.inl ⟨by rfl,?_⟩) ?_ ?_
      rotate_left
      ·intro w'
       go_simp
       with_reducible rfl
      rotate_left
      ·simp only [Act.put,List.setIfInBounds_toArray,List.set_cons_zero,List.set_cons_succ,i64_w,i32_w]
       rfl
      refine pure_ (i:=5) (N:=some 30) (v:=?_) (a':=?_) #[true,true,true,true,true,true,true,false,false,false] rfl rfl (any_of HT_.out (by kernel_rfl)) (fun _ _ _ h=>h) (Or.inl ⟨by rfl,?_⟩) ?_ ?_
      rotate_left
      ·intro w'
       go_simp
       with_reducible rfl
      rotate_left
      ·simp only [Act.put,List.setIfInBounds_toArray,List.set_cons_zero,List.set_cons_succ,i64_w,i32_w]
       rfl
      refine one_ (i:=7) (N:=none) #[true,true,true,true,true,true,true,true,false,false] rfl rfl (one_of HT_.out (by kernel_rfl)) (by decide) (fun K hK=>?_)
      have hs37:w36.cell? ⟨gb102,1,none⟩ = some (.int .i64 0):=(zce BK102.out 1).trans rfl
      have hfs37:=zfz BK102.out 1
      have hns37_0:=NB101_102.out
      have hms37_0:=NB102_101.out
      refine skip_ (w1:=?_) (by rfl) rfl ?_ ?_
      rotate_left
      ·go_simp
       rfl
      refine hK.out _ _ ⟨((cell_far (p:=⟨gb102,_,none⟩) NB101_102.out _).trans (hHeld.1)),((cell_far (p:=⟨gb102,_,none⟩) NB101_102.out _).trans (hHeld.2.1)),((cell_far (p:=⟨gb102,_,none⟩) NB101_102.out _).trans (hHeld.2.2.1)),((cell_far (p:=⟨gb102,_,none⟩) NB101_102.out _).trans (hHeld.2.2.2))⟩ (fun hHeld=>?_)
      clear hK K
      refine pure_ (i:=8) (N:=some 32) (v:=?_) (a':=?_) #[true,true,true,true,true,true,true,true,true,false] rfl rfl (any_of HT_.out (by kernel_rfl)) (fun _ _ _ h=>h) (Or.inl ⟨by rfl,?_⟩) ?_ ?_
      rotate_left
      ·intro w'
       go_simp
       with_reducible rfl
      rotate_left
      ·simp only [Act.put,List.setIfInBounds_toArray,List.set_cons_zero,List.set_cons_succ,i64_w,i32_w]
       rfl
      refine one_ (i:=9) (N:=none) #[true,true,true,true,true,true,true,true,true,true] rfl rfl (one_of HT_.out (by kernel_rfl)) (by decide) (fun K hK=>?_)
      have hs38:w36.cell? ⟨gb102,2,none⟩ = some (.int .i64 0):=(zce BK102.out 2).trans rfl
      have hfs38:=zfz BK102.out 2
      have hns38_0:=NB101_102.out
      have hms38_0:=NB102_101.out
      refine skip_ (w1:=?_) (by rfl) rfl ?_ ?_
      rotate_left
      ·go_simp
       rfl
      refine hK.out _ _ ⟨((cell_far (p:=⟨gb102,_,none⟩) NB101_102.out _).trans (hHeld.1)),((cell_far (p:=⟨gb102,_,none⟩) NB101_102.out _).trans (hHeld.2.1)),((cell_far (p:=⟨gb102,_,none⟩) NB101_102.out _).trans (hHeld.2.2.1)),((cell_far (p:=⟨gb102,_,none⟩) NB101_102.out _).trans (hHeld.2.2.2))⟩ (fun hHeld=>?_)
      clear hK K
      refine done_ (done_of HT_.out (by kernel_rfl)) ?_
      have hcz39_0:w36.cell? ⟨gb101,0,none⟩ = some (.int .i64 a0_0):=(zce BK101.out 0).trans rfl
      have hcz39_1:w36.cell? ⟨gb101,1,none⟩ = some (.int .i64 a0_1):=(zce BK101.out 1).trans rfl
      have hcz39_2:w36.cell? ⟨gb101,2,none⟩ = some (.int .i64 a0_2):=(zce BK101.out 2).trans rfl
      have hcz39_3:w36.cell? ⟨gb101,3,none⟩ = some (.string a0_3):=(zce BK101.out 3).trans rfl
      have hfz39_0:=zfz BK101.out 0
      have hfz39_1:=zfz BK101.out 1
      have hfz39_2:=zfz BK101.out 2
     ·have hfz39_3:=zfz BK101.out 3
      try go_wp2
      go_ret
      exact ⟨by first|rfl|(simp [errW_none,errW_some] <;> rfl)|(simp only [← hji26,← hji27];first|rfl|(simp [errW_none,errW_some] <;> rfl))|(simp [*,errW_none,errW_some] <;> rfl),by repeat first|(with_reducible first|exact HB.out|apply zA|apply zN|apply z1|refine zS ?_ GE101.out|refine zS ?_ GE102.out)|exact HB.out⟩
     ·have hfz39_3:=zfz BK101.out 3
      try go_wp2
      go_ret
      exact ⟨by first|rfl|(simp [errW_none,errW_some] <;> rfl)|(simp only [← hji26,← hji27];first|rfl|(simp [errW_none,errW_some] <;> rfl))|(simp [*,errW_none,errW_some] <;> rfl),by repeat first|(with_reducible first|exact HB.out|apply zA|apply zN|apply z1|refine zS ?_ GE101.out|refine zS ?_ GE102.out)|exact HB.out⟩
     ·have hfz39_3:=zfz BK101.out 3
      try go_wp2
      go_ret
      exact ⟨by first|rfl|(simp [errW_none,errW_some] <;> rfl)|(simp only [← hji26,← hji27];first|rfl|(simp [errW_none,errW_some] <;> rfl))|(simp [*,errW_none,errW_some] <;> rfl),by repeat first|(with_reducible first|exact HB.out|apply zA|apply zN|apply z1|refine zS ?_ GE101.out|refine zS ?_ GE102.out)|exact HB.out⟩
     ·have hfz39_3:=zfz BK101.out 3
      have hcz76_0:w36.cell? ⟨gb102,0,none⟩ = some (.int .i64 a0_0):=(zce BK102.out 0).trans rfl
      have hcz76_1:w36.cell? ⟨gb102,1,none⟩ = some (.int .i64 0):=(zce BK102.out 1).trans rfl
      have hcz76_2:w36.cell? ⟨gb102,2,none⟩ = some (.int .i64 0):=(zce BK102.out 2).trans rfl
      have hcz76_3:w36.cell? ⟨gb102,3,none⟩ = some (.string (⟨#[]⟩:ByteArray)):=(zce BK102.out 3).trans rfl
      have hfz76_0:=zfz BK102.out 0
      have hfz76_1:=zfz BK102.out 1
      have hfz76_2:=zfz BK102.out 2
      have hfz76_3:=zfz BK102.out 3
      try go_wp2
      go_ret
      exact ⟨by first|rfl|(simp [errW_none,errW_some] <;> rfl)|(simp only [← hji26,← hji27];first|rfl|(simp [errW_none,errW_some] <;> rfl))|(simp [*,errW_none,errW_some] <;> rfl),by repeat first|(with_reducible first|exact HB.out|apply zA|apply zN|apply z1|refine zS ?_ GE101.out|refine zS ?_ GE102.out)|exact HB.out⟩
     ·have hfz39_3:=zfz BK101.out 3
      have hcz88_0:w36.cell? ⟨gb102,0,none⟩ = some (.int .i64 a0_0):=(zce BK102.out 0).trans rfl
      have hcz88_1:w36.cell? ⟨gb102,1,none⟩ = some (.int .i64 0):=(zce BK102.out 1).trans rfl
      have hcz88_2:w36.cell? ⟨gb102,2,none⟩ = some (.int .i64 0):=(zce BK102.out 2).trans rfl
      have hcz88_3:w36.cell? ⟨gb102,3,none⟩ = some (.string (⟨#[]⟩:ByteArray)):=(zce BK102.out 3).trans rfl
      have hfz88_0:=zfz BK102.out 0
      have hfz88_1:=zfz BK102.out 1
      have hfz88_2:=zfz BK102.out 2
      have hfz88_3:=zfz BK102.out 3
      try go_wp2
      go_ret
      exact ⟨by first|rfl|(simp [errW_none,errW_some] <;> rfl)|(simp only [← hji26,← hji27];first|rfl|(simp [errW_none,errW_some] <;> rfl))|(simp [*,errW_none,errW_some] <;> rfl),by repeat first|(with_reducible first|exact HB.out|apply zA|apply zN|apply z1|refine zS ?_ GE101.out|refine zS ?_ GE102.out)|exact HB.out⟩
    ·rw [if_neg c25] at H
     have c25b0:(a0_0 == 3) = false:=beq_eq_false_iff_ne.mpr c25
     have c25b1:(a0_0 != 3) = true:=bne_iff_ne.mpr c25
     have HC89:=z_ H
     clear H
     go_enter Try.func15,Try.ntmps15
     go_upto_if 52 with (first|((with_reducible refine gate_dst (N:=1) rfl ?_);refine box_event ?hg (N:=1) ?hd (cs:=#[.int .i64 a0_0, .int .i64 a0_1, .int .i64 a0_2, .string a0_3]) (t:=23) ?hr ?_;(case hd=>rfl);(case hg=>rfl);(case hr=>first|(go_simp;done)|(go_simp;rfl));intro gb101 hg w90 hbox hb;have n0_:=z_ (below_step (by repeat first|(with_reducible first|exact HB.out|apply zA|apply zN|apply z1)|exact HB.out) hb);have n1_:=z_ (hbox);have n2_:=z_ ((by rw [hg];exact (zBs (by repeat first|(with_reducible first|exact HB.out|apply zA|apply zN|apply z1)|exact HB.out)):w.heap.size ≤ gb101));have n3_:=z_ ((by rw [hg];exact (zBs (by repeat first|(with_reducible first|exact HB.out|apply zA|apply zN|apply z1)|exact HB.out)):w.heap.size ≤ gb101));clear HB;have HB:=n0_;have BK101:=n1_;have GW101:=n2_;have GE101:=n3_;clear n0_ n1_ n2_ n3_;clear hb hbox hg;have hcz91_0:w90.cell? ⟨gb101,0,none⟩ = some (.int .i64 a0_0):=(zce BK101.out 0).trans rfl;have hcz91_1:w90.cell? ⟨gb101,1,none⟩ = some (.int .i64 a0_1):=(zce BK101.out 1).trans rfl;have hcz91_2:w90.cell? ⟨gb101,2,none⟩ = some (.int .i64 a0_2):=(zce BK101.out 2).trans rfl;have hcz91_3:w90.cell? ⟨gb101,3,none⟩ = some (.string a0_3):=(zce BK101.out 3).trans rfl;have hfz91_0:=zfz BK101.out 0;have hfz91_1:=zfz BK101.out 1;have hfz91_2:=zfz BK101.out 2;have hfz91_3:=zfz BK101.out 3)|((with_reducible refine gate_dst (N:=3) rfl ?_);refine box_event ?hg (N:=3) ?hd (cs:=#[.int .i64 0, .int .i64 0, .int .i64 0, .string (⟨#[]⟩:ByteArray)]) (t:=23) ?hr ?_;(case hd=>rfl);(case hg=>rfl);(case hr=>first|(go_simp;done)|(go_simp;rfl));intro gb102 hg w92 hbox hb;have n0_:=z_ (zbb (g:=gb101) (o:=.cells #[.int .i64 a0_0, .int .i64 a0_1, .int .i64 a0_2, .string a0_3] 23 (0,0)) (by (with_reducible repeat first|apply zbN|apply zb1|apply zbA);exact BK101.out) hb);have n1_:=z_ (below_step (by repeat first|(with_reducible first|exact HB.out|apply zA|apply zN|apply z1|refine zS ?_ GE101.out)|exact HB.out) hb);have n2_:=z_ (hbox);have n3_:=z_ ((by rw [hg];exact (zBs (by repeat first|(with_reducible first|exact HB.out|apply zA|apply zN|apply z1|refine zS ?_ GE101.out)|exact HB.out)):w.heap.size ≤ gb102));have n4_:=z_ ((by rw [hg];exact (zBs (by repeat first|(with_reducible first|exact HB.out|apply zA|apply zN|apply z1|refine zS ?_ GE101.out)|exact HB.out)):w.heap.size ≤ gb102));have n5_:=z_ ((by rw [hg];exact Nat.ne_of_lt (blk_lt (g:=gb101) (o:=.cells #[.int .i64 a0_0, .int .i64 a0_1, .int .i64 a0_2, .string a0_3] 23 (0,0)) (by (with_reducible repeat first|apply zbN|apply zb1|apply zbA);exact BK101.out)):gb101 ≠ gb102));have n6_:=z_ ((by rw [hg];exact Nat.ne_of_gt (blk_lt (g:=gb101) (o:=.cells #[.int .i64 a0_0, .int .i64 a0_1, .int .i64 a0_2, .string a0_3] 23 (0,0)) (by (with_reducible repeat first|apply zbN|apply zb1|apply zbA);exact BK101.out)):gb102 ≠ gb101));clear BK101;clear HB;have BK101:=n0_;have HB:=n1_;have BK102:=n2_;have GW102:=n3_;have GE102:=n4_;have NB101_102:=n5_;have NB102_101:=n6_;clear n0_ n1_ n2_ n3_ n4_ n5_ n6_;clear hb hbox hg;have hnb93:=NB102_101.out;have hnc93:=NB101_102.out;have hcz94_0:w92.cell? ⟨gb102,0,none⟩ = some (.int .i64 0):=(zce BK102.out 0).trans rfl;have hcz94_1:w92.cell? ⟨gb102,1,none⟩ = some (.int .i64 0):=(zce BK102.out 1).trans rfl;have hcz94_2:w92.cell? ⟨gb102,2,none⟩ = some (.int .i64 0):=(zce BK102.out 2).trans rfl;have hcz94_3:w92.cell? ⟨gb102,3,none⟩ = some (.string (⟨#[]⟩:ByteArray)):=(zce BK102.out 3).trans rfl;have hfz94_0:=zfz BK102.out 0;have hfz94_1:=zfz BK102.out 1;have hfz94_2:=zfz BK102.out 2;have hfz94_3:=zfz BK102.out 3;have hcz95_0:w92.cell? ⟨gb101,0,none⟩ = some (.int .i64 a0_0):=(zce BK101.out 0).trans rfl;have hcz95_1:w92.cell? ⟨gb101,1,none⟩ = some (.int .i64 a0_1):=(zce BK101.out 1).trans rfl;have hcz95_2:w92.cell? ⟨gb101,2,none⟩ = some (.int .i64 a0_2):=(zce BK101.out 2).trans rfl;have hcz95_3:w92.cell? ⟨gb101,3,none⟩ = some (.string a0_3):=(zce BK101.out 3).trans rfl;have hfz95_0:=zfz BK101.out 0;have hfz95_1:=zfz BK101.out 1;have hfz95_2:=zfz BK101.out 2;have hfz95_3:=zfz BK101.out 3))
     (try simp only [Act.put,List.setIfInBounds_toArray,List.set_cons_zero,List.set_cons_succ])
     go_cut [52] (fun v52 wc=>∃ (kq:Nat) (x52_88:Bool),v52 = .bool x52_88 ∧ Aside0 (val_Right.j0 kq x52_88 a0_0 a0_1 a0_2 a0_3 a0_0 0 0 (⟨#[]⟩:ByteArray) = some r) ∧ Aside0 (kq ≤ k) ∧ Aside0 (wc.heap[gb101]? = some (.cells #[.int .i64 a0_0, .int .i64 a0_1, .int .i64 a0_2, .string a0_3] 23 (0,0))) ∧ Aside0 (wc.heap[gb102]? = some (.cells #[.int .i64 a0_0, .int .i64 0, .int .i64 0, .string (⟨#[]⟩:ByteArray)] 23 (0,0))) ∧ Aside0 (Below w.heap.size w wc))
     case first =>
      have H:=HC89.out
      clear HC89
      by_cases c96:a0_0 = 4
      ·rw [if_pos c96] at H
       have c96b0:(a0_0 == 4) = true:=beq_iff_eq.mpr c96
       have c96b1:(a0_0 != 4) = false:=bne_eq_false_iff_eq.mpr c96
       clear c96
       (first|rw [c96b0]|(simp only [i64_w,i32_w];rw [c96b0])|skip)
       have H':=z_ H
       clear H
       go_wp2
       go_meet
       case rel=>exact ⟨_,((a0_0 == 4)),(by first|rfl|(simp;done)|(simp [*];done)),(by first|with_reducible exact H'|(rw [hji27];exact H')|exact H'),⟨by first|omega|exact Nat.le_refl _⟩,⟨by (with_reducible repeat first|apply zbN|apply zb1|apply zbA);refine zbf ?_ NB101_102.out _;(with_reducible repeat first|apply zbN|apply zb1|apply zbA);refine zbf ?_ NB101_102.out _;(with_reducible repeat first|apply zbN|apply zb1|apply zbA);refine zbf ?_ NB101_102.out _;(with_reducible repeat first|apply zbN|apply zb1|apply zbA);refine zbf ?_ NB101_102.out _;(with_reducible repeat first|apply zbN|apply zb1|apply zbA);exact BK101.out⟩,⟨by (with_reducible repeat first|apply zbN|apply zb1|apply zbA);refine zbp (cs:=#[.int .i64 a0_0, .int .i64 0, .int .i64 0, .string (⟨#[]⟩:ByteArray)]) ?_ 3 _ rfl;(with_reducible repeat first|apply zbN|apply zb1|apply zbA);refine zbp (cs:=#[.int .i64 a0_0, .int .i64 0, .int .i64 0, .string (⟨#[]⟩:ByteArray)]) ?_ 2 _ rfl;(with_reducible repeat first|apply zbN|apply zb1|apply zbA);refine zbp (cs:=#[.int .i64 a0_0, .int .i64 0, .int .i64 0, .string (⟨#[]⟩:ByteArray)]) ?_ 1 _ rfl;(with_reducible repeat first|apply zbN|apply zb1|apply zbA);refine zbp (cs:=#[.int .i64 0, .int .i64 0, .int .i64 0, .string (⟨#[]⟩:ByteArray)]) ?_ 0 _ rfl;(with_reducible repeat first|apply zbN|apply zb1|apply zbA);exact BK102.out⟩,⟨by repeat first|(with_reducible first|exact HB.out|apply zA|apply zN|apply z1|refine zS ?_ GE101.out|refine zS ?_ GE102.out)|exact HB.out⟩⟩
      ·rw [if_neg c96] at H
       have c96b0:(a0_0 == 4) = false:=beq_eq_false_iff_ne.mpr c96
       have c96b1:(a0_0 != 4) = true:=bne_iff_ne.mpr c96
       (first|rw [c96b0]|(simp only [i64_w,i32_w];rw [c96b0])|skip)
       have H':=z_ H
       clear H
       go_wp2
       go_meet
       case rel=>exact ⟨_,((a0_0 == 5)),(by first|rfl|(simp;done)|(simp [*];done)),(by first|with_reducible exact H'|(rw [hji27];exact H')|exact H'),⟨by first|omega|exact Nat.le_refl _⟩,⟨by (with_reducible repeat first|apply zbN|apply zb1|apply zbA);refine zbf ?_ NB101_102.out _;(with_reducible repeat first|apply zbN|apply zb1|apply zbA);refine zbf ?_ NB101_102.out _;(with_reducible repeat first|apply zbN|apply zb1|apply zbA);refine zbf ?_ NB101_102.out _;(with_reducible repeat first|apply zbN|apply zb1|apply zbA);refine zbf ?_ NB101_102.out _;(with_reducible repeat first|apply zbN|apply zb1|apply zbA);exact BK101.out⟩,⟨by (with_reducible repeat first|apply zbN|apply zb1|apply zbA);refine zbp (cs:=#[.int .i64 a0_0, .int .i64 0, .int .i64 0, .string (⟨#[]⟩:ByteArray)]) ?_ 3 _ rfl;(with_reducible repeat first|apply zbN|apply zb1|apply zbA);refine zbp (cs:=#[.int .i64 a0_0, .int .i64 0, .int .i64 0, .string (⟨#[]⟩:ByteArray)]) ?_ 2 _ rfl;(with_reducible repeat first|apply zbN|apply zb1|apply zbA);refine zbp (cs:=#[.int .i64 a0_0, .int .i64 0, .int .i64 0, .string (⟨#[]⟩:ByteArray)]) ?_ 1 _ rfl;(with_reducible repeat first|apply zbN|apply zb1|apply zbA);refine zbp (cs:=#[.int .i64 0, .int .i64 0, .int .i64 0, .string (⟨#[]⟩:ByteArray)]) ?_ 0 _ rfl;(with_reducible repeat first|apply zbN|apply zb1|apply zbA);exact BK102.out⟩,⟨by repeat first|(with_reducible first|exact HB.out|apply zA|apply zN|apply z1|refine zS ?_ GE101.out|refine zS ?_ GE102.out)|exact HB.out⟩⟩
     case rest =>
      clear HC89
      try clear c1
      try clear c2
      try clear p2
      try clear c4
      try clear c5
      try clear c6
      try clear c8
      try clear c9
      try clear c15
      try clear c25
      try clear c25b0
      try clear c25b1
      try clear c28
      try clear c28b0
      try clear c40
      try clear c40b0
      try clear c44
      try clear c52
      try clear c52b0
      try clear c53
      try clear c53b0
      try clear c53b1
      try clear c57
      try clear c68
      try clear c80
      try clear c93
      try clear c96
      try clear c96b0
      try clear c96b1
      try clear hcz39_0
      try clear hcz39_1
      try clear hcz39_2
      try clear hcz39_3
      try clear hcz42_0
      try clear hcz42_1
      try clear hcz42_2
      try clear hcz42_3
      try clear hcz45_0
      try clear hcz45_1
      try clear hcz45_2
      try clear hcz45_3
      try clear hcz46_0
      try clear hcz46_1
      try clear hcz46_2
      try clear hcz46_3
      try clear hcz51_0
      try clear hcz51_1
      try clear hcz51_2
      try clear hcz51_3
      try clear hcz55_0
      try clear hcz55_1
      try clear hcz55_2
      try clear hcz55_3
      try clear hcz58_0
      try clear hcz58_1
      try clear hcz58_2
      try clear hcz58_3
      try clear hcz59_0
      try clear hcz59_1
      try clear hcz59_2
      try clear hcz59_3
      try clear hcz64_0
      try clear hcz64_1
      try clear hcz64_2
      try clear hcz64_3
      try clear hcz66_0
      try clear hcz66_1
      try clear hcz66_2
      try clear hcz66_3
      try clear hcz69_0
      try clear hcz69_1
      try clear hcz69_2
      try clear hcz69_3
      try clear hcz70_0
      try clear hcz70_1
      try clear hcz70_2
      try clear hcz70_3
      try clear hcz75_0
      try clear hcz75_1
      try clear hcz75_2
      try clear hcz75_3
      try clear hcz76_0
      try clear hcz76_1
      try clear hcz76_2
      try clear hcz76_3
      try clear hcz78_0
      try clear hcz78_1
      try clear hcz78_2
      try clear hcz78_3
      try clear hcz81_0
      try clear hcz81_1
      try clear hcz81_2
      try clear hcz81_3
      try clear hcz82_0
      try clear hcz82_1
      try clear hcz82_2
      try clear hcz82_3
      try clear hcz87_0
      try clear hcz87_1
      try clear hcz87_2
      try clear hcz87_3
      try clear hcz88_0
      try clear hcz88_1
      try clear hcz88_2
      try clear hcz88_3
      try clear hcz91_0
      try clear hcz91_1
      try clear hcz91_2
      try clear hcz91_3
      try clear hcz94_0
      try clear hcz94_1
      try clear hcz94_2
      try clear hcz94_3
      try clear hcz95_0
      try clear hcz95_1
      try clear hcz95_2
      try clear hcz95_3
      try clear hfz39_0
      try clear hfz39_1
      try clear hfz39_2
      try clear hfz39_3
      try clear hfz42_0
      try clear hfz42_1
      try clear hfz42_2
      try clear hfz42_3
      try clear hfz45_0
      try clear hfz45_1
      try clear hfz45_2
      try clear hfz45_3
      try clear hfz46_0
      try clear hfz46_1
      try clear hfz46_2
      try clear hfz46_3
      try clear hfz51_0
      try clear hfz51_1
      try clear hfz51_2
      try clear hfz51_3
      try clear hfz55_0
      try clear hfz55_1
      try clear hfz55_2
      try clear hfz55_3
      try clear hfz58_0
      try clear hfz58_1
      try clear hfz58_2
      try clear hfz58_3
      try clear hfz59_0
      try clear hfz59_1
      try clear hfz59_2
      try clear hfz59_3
      try clear hfz64_0
      try clear hfz64_1
      try clear hfz64_2
      try clear hfz64_3
      try clear hfz66_0
      try clear hfz66_1
      try clear hfz66_2
      try clear hfz66_3
      try clear hfz69_0
      try clear hfz69_1
      try clear hfz69_2
      try clear hfz69_3
      try clear hfz70_0
      try clear hfz70_1
      try clear hfz70_2
      try clear hfz70_3
      try clear hfz75_0
      try clear hfz75_1
      try clear hfz75_2
      try clear hfz75_3
      try clear hfz76_0
      try clear hfz76_1
      try clear hfz76_2
      try clear hfz76_3
      try clear hfz78_0
      try clear hfz78_1
      try clear hfz78_2
      try clear hfz78_3
      try clear hfz81_0
      try clear hfz81_1
      try clear hfz81_2
      try clear hfz81_3
      try clear hfz82_0
      try clear hfz82_1
      try clear hfz82_2
      try clear hfz82_3
      try clear hfz87_0
      try clear hfz87_1
      try clear hfz87_2
      try clear hfz87_3
      try clear hfz88_0
      try clear hfz88_1
      try clear hfz88_2
      try clear hfz88_3
      try clear hfz91_0
      try clear hfz91_1
      try clear hfz91_2
      try clear hfz91_3
      try clear hfz94_0
      try clear hfz94_1
      try clear hfz94_2
      try clear hfz94_3
      try clear hfz95_0
      try clear hfz95_1
      try clear hfz95_2
      try clear hfz95_3
      obtain ⟨kq,x52_88,rfl,HA,HJ88,BK101,BK102,HB⟩:=hcut
      cases kq with
      | zero=>exact absurd HA.out (by simp [val_Right.j0])
      | succ kj88 =>
       have H:=HA.out
       clear HA
       simp only [val_Right.j0] at H
       by_cases c97:x52_88 = true
       ·subst c97
        have H1:(if (a0_3.size:Int) > 40 then (some false) else (if a0_0 = 4 then ((val_printable.f kj88 a0_3).bind fun t103=>(if t103 = true then (some (a0_0 == a0_0 && (a0_1 == 0 && (a0_2 == 0)))) else (some false))) else (some (a0_0 == a0_0 && (a0_1 == 0 && (a0_2 == 0)))))) = some r:=by rw [if_pos rfl] at H;exact H
        clear H
        have H:=H1
        clear H1
        by_cases c98:(a0_3.size:Int) > 40
        ·rw [if_pos c98] at H
         have c98b0:decide (40 < (a0_3.size:Int)) = true:=decide_eq_true c98
         have c98b1:decide (40 < a0_3.size) = true:=decide_eq_true (by omega)
         clear c98
         obtain rfl:=Option.some.inj H
         have hnb99:=NB101_102.out
         have hnc99:=NB102_101.out
         have hcz100_0:wc.cell? ⟨gb101,0,none⟩ = some (.int .i64 a0_0):=(zce BK101.out 0).trans rfl
         have hcz100_1:wc.cell? ⟨gb101,1,none⟩ = some (.int .i64 a0_1):=(zce BK101.out 1).trans rfl
         have hcz100_2:wc.cell? ⟨gb101,2,none⟩ = some (.int .i64 a0_2):=(zce BK101.out 2).trans rfl
         have hcz100_3:wc.cell? ⟨gb101,3,none⟩ = some (.string a0_3):=(zce BK101.out 3).trans rfl
         have hfz100_0:=zfz BK101.out 0
         have hfz100_1:=zfz BK101.out 1
         have hfz100_2:=zfz BK101.out 2
         have hfz100_3:=zfz BK101.out 3
         have hcz101_0:wc.cell? ⟨gb102,0,none⟩ = some (.int .i64 a0_0):=(zce BK102.out 0).trans rfl
         have hcz101_1:wc.cell? ⟨gb102,1,none⟩ = some (.int .i64 0):=(zce BK102.out 1).trans rfl
         have hcz101_2:wc.cell? ⟨gb102,2,none⟩ = some (.int .i64 0):=(zce BK102.out 2).trans rfl
         have hcz101_3:wc.cell? ⟨gb102,3,none⟩ = some (.string (⟨#[]⟩:ByteArray)):=(zce BK102.out 3).trans rfl
         have hfz101_0:=zfz BK102.out 0
         have hfz101_1:=zfz BK102.out 1
         have hfz101_2:=zfz BK102.out 2
         have hfz101_3:=zfz BK102.out 3
         go_wp2
         go_ret
         exact ⟨by first|rfl|(simp [errW_none,errW_some] <;> rfl)|(simp [*,errW_none,errW_some] <;> rfl),by repeat first|(with_reducible first|exact HB.out|apply zA|apply zN|apply z1|refine zS ?_ GE101.out|refine zS ?_ GE102.out)|exact HB.out⟩
        ·rw [if_neg c98] at H
         have c98b0:decide (40 < (a0_3.size:Int)) = false:=decide_eq_false c98
         have c98b1:decide (40 < a0_3.size) = false:=decide_eq_false (by omega)
         clear c98
         by_cases c102:a0_0 = 4
         ·rw [if_pos c102] at H
          have c102b0:(a0_0 == 4) = true:=beq_iff_eq.mpr c102
          have c102b1:(a0_0 != 4) = false:=bne_eq_false_iff_eq.mpr c102
          clear c102
          replace H:=Option.bind_eq_some_iff.mp H
          obtain ⟨t103,A1030,H⟩:=H
          replace H:(if t103 = true then (some (a0_0 == a0_0 && (a0_1 == 0 && (a0_2 == 0)))) else (some false)) = some r:=H
          have A103:=z_ A1030
          clear A1030
          by_cases c104:t103 = true
          ·subst c104
           have H1:(some (a0_0 == a0_0 && (a0_1 == 0 && (a0_2 == 0)))) = some r:=by rw [if_pos rfl] at H;exact H
           clear H
           have H:=H1
           clear H1
           obtain rfl:=Option.some.inj H
           have hnb105:=NB101_102.out
           have hnc105:=NB102_101.out
           have hcz106_0:wc.cell? ⟨gb101,0,none⟩ = some (.int .i64 a0_0):=(zce BK101.out 0).trans rfl
           have hcz106_1:wc.cell? ⟨gb101,1,none⟩ = some (.int .i64 a0_1):=(zce BK101.out 1).trans rfl
           have hcz106_2:wc.cell? ⟨gb101,2,none⟩ = some (.int .i64 a0_2):=(zce BK101.out 2).trans rfl
           have hcz106_3:wc.cell? ⟨gb101,3,none⟩ = some (.string a0_3):=(zce BK101.out 3).trans rfl
           have hfz106_0:=zfz BK101.out 0
           have hfz106_1:=zfz BK101.out 1
           have hfz106_2:=zfz BK101.out 2
           have hfz106_3:=zfz BK101.out 3
           have hcz107_0:wc.cell? ⟨gb102,0,none⟩ = some (.int .i64 a0_0):=(zce BK102.out 0).trans rfl
           have hcz107_1:wc.cell? ⟨gb102,1,none⟩ = some (.int .i64 0):=(zce BK102.out 1).trans rfl
           have hcz107_2:wc.cell? ⟨gb102,2,none⟩ = some (.int .i64 0):=(zce BK102.out 2).trans rfl
           have hcz107_3:wc.cell? ⟨gb102,3,none⟩ = some (.string (⟨#[]⟩:ByteArray)):=(zce BK102.out 3).trans rfl
           have hfz107_0:=zfz BK102.out 0
           have hfz107_1:=zfz BK102.out 1
           have hfz107_2:=zfz BK102.out 2
           have hfz107_3:=zfz BK102.out 3
           go_wp2_with (first|(go_at_call 29;(with_reducible refine (val_printable.calls kj88 a0_3 true _ A103.out).mono ?_);rintro e w' ⟨rfl,⟨nd,rfl⟩⟩))
           go_ret
           exact ⟨by first|rfl|(simp [errW_none,errW_some] <;> rfl)|(simp [*,errW_none,errW_some] <;> rfl),by repeat first|(with_reducible first|exact HB.out|apply zA|apply zN|apply z1|refine zS ?_ GE101.out|refine zS ?_ GE102.out)|exact HB.out⟩
          ·replace c104:=Bool.eq_false_iff.mpr c104
           subst c104
           have H1:(some false) = some r:=by rw [if_neg (show ¬ (false = true) by decide)] at H;exact H
           clear H
           have H:=H1
           clear H1
           obtain rfl:=Option.some.inj H
           have hnb108:=NB101_102.out
           have hnc108:=NB102_101.out
           have hcz109_0:wc.cell? ⟨gb101,0,none⟩ = some (.int .i64 a0_0):=(zce BK101.out 0).trans rfl
           have hcz109_1:wc.cell? ⟨gb101,1,none⟩ = some (.int .i64 a0_1):=(zce BK101.out 1).trans rfl
           have hcz109_2:wc.cell? ⟨gb101,2,none⟩ = some (.int .i64 a0_2):=(zce BK101.out 2).trans rfl
           have hcz109_3:wc.cell? ⟨gb101,3,none⟩ = some (.string a0_3):=(zce BK101.out 3).trans rfl
           have hfz109_0:=zfz BK101.out 0
           have hfz109_1:=zfz BK101.out 1
           have hfz109_2:=zfz BK101.out 2
           have hfz109_3:=zfz BK101.out 3
           have hcz110_0:wc.cell? ⟨gb102,0,none⟩ = some (.int .i64 a0_0):=(zce BK102.out 0).trans rfl
           have hcz110_1:wc.cell? ⟨gb102,1,none⟩ = some (.int .i64 0):=(zce BK102.out 1).trans rfl
           have hcz110_2:wc.cell? ⟨gb102,2,none⟩ = some (.int .i64 0):=(zce BK102.out 2).trans rfl
           have hcz110_3:wc.cell? ⟨gb102,3,none⟩ = some (.string (⟨#[]⟩:ByteArray)):=(zce BK102.out 3).trans rfl
           have hfz110_0:=zfz BK102.out 0
           have hfz110_1:=zfz BK102.out 1
           have hfz110_2:=zfz BK102.out 2
           have hfz110_3:=zfz BK102.out 3
           go_wp2_with (first|(go_at_call 29;(with_reducible refine (val_printable.calls kj88 a0_3 false _ A103.out).mono ?_);rintro e w' ⟨rfl,⟨nd,rfl⟩⟩))
           go_ret
           exact ⟨by first|rfl|(simp [errW_none,errW_some] <;> rfl)|(simp [*,errW_none,errW_some] <;> rfl),by repeat first|(with_reducible first|exact HB.out|apply zA|apply zN|apply z1|refine zS ?_ GE101.out|refine zS ?_ GE102.out)|exact HB.out⟩
         ·rw [if_neg c102] at H
          have c102b0:(a0_0 == 4) = false:=beq_eq_false_iff_ne.mpr c102
          have c102b1:(a0_0 != 4) = true:=bne_iff_ne.mpr c102
          obtain rfl:=Option.some.inj H
          have hnb111:=NB101_102.out
          have hnc111:=NB102_101.out
          have hcz112_0:wc.cell? ⟨gb101,0,none⟩ = some (.int .i64 a0_0):=(zce BK101.out 0).trans rfl
          have hcz112_1:wc.cell? ⟨gb101,1,none⟩ = some (.int .i64 a0_1):=(zce BK101.out 1).trans rfl
          have hcz112_2:wc.cell? ⟨gb101,2,none⟩ = some (.int .i64 a0_2):=(zce BK101.out 2).trans rfl
          have hcz112_3:wc.cell? ⟨gb101,3,none⟩ = some (.string a0_3):=(zce BK101.out 3).trans rfl
          have hfz112_0:=zfz BK101.out 0
          have hfz112_1:=zfz BK101.out 1
          have hfz112_2:=zfz BK101.out 2
          have hfz112_3:=zfz BK101.out 3
          have hcz113_0:wc.cell? ⟨gb102,0,none⟩ = some (.int .i64 a0_0):=(zce BK102.out 0).trans rfl
          have hcz113_1:wc.cell? ⟨gb102,1,none⟩ = some (.int .i64 0):=(zce BK102.out 1).trans rfl
          have hcz113_2:wc.cell? ⟨gb102,2,none⟩ = some (.int .i64 0):=(zce BK102.out 2).trans rfl
          have hcz113_3:wc.cell? ⟨gb102,3,none⟩ = some (.string (⟨#[]⟩:ByteArray)):=(zce BK102.out 3).trans rfl
          have hfz113_0:=zfz BK102.out 0
          have hfz113_1:=zfz BK102.out 1
          have hfz113_2:=zfz BK102.out 2
          have hfz113_3:=zfz BK102.out 3
          go_wp2
          go_ret
          exact ⟨by first|rfl|(simp [errW_none,errW_some] <;> rfl)|(simp [*,errW_none,errW_some] <;> rfl),by repeat first|(with_reducible first|exact HB.out|apply zA|apply zN|apply z1|refine zS ?_ GE101.out|refine zS ?_ GE102.out)|exact HB.out⟩
       ·replace c97:=Bool.eq_false_iff.mpr c97
        subst c97
        have H1:(some false) = some r:=by rw [if_neg (show ¬ (false = true) by decide)] at H;exact H
        clear H
        have H:=H1
        clear H1
        obtain rfl:=Option.some.inj H
        go_wp2
        go_ret
        exact ⟨by first|rfl|(simp [errW_none,errW_some] <;> rfl)|(simp [*,errW_none,errW_some] <;> rfl),by repeat first|(with_reducible first|exact HB.out|apply zA|apply zN|apply z1|refine zS ?_ GE101.out|refine zS ?_ GE102.out)|exact HB.out⟩
end Go.Proofs.Ytllkhdhanheieaa.R
namespace Go.Proofs.Ytllkhdhanheieaa.R
open Go.RowKit Go.Proofs.YtllkhdhanheieaaW.PrintWords Go.Proofs.YtllkhdhanheieaaW.PrintLast Go.Proofs.YtllkhdhanheieaaW.PrintMore
attribute [local go_sem] max2_int min2_int max_two min_two max_three min_three max_four min_four
attribute [local go_sem high] own_gtr own_leq own_geq own_cell_set Option.map_some fld23_1
set_option linter.unusedVariables false
set_option linter.unusedSimpArgs false
mutual
def val_Norm.j0:Nat → Bool → Int → Int → Int → ByteArray → Option (Int × Int × Int × ByteArray)
 | 0,_,_,_,_,_=>none
 | k + 1,x10,x102000,x102001,x102002,x102003=>if x10 = true then (val_Norm.j1 k x102000 x102001 (mn x102002 0) x102003) else (val_Norm.j1 k x102000 x102001 x102002 x102003)
def val_Norm.j1:Nat → Int → Int → Int → ByteArray → Option (Int × Int × Int × ByteArray)
 | 0,_,_,_,_=>none
 | k + 1,x102000,x102001,x102002,x102003=>val_Norm.l0 k x102000 x102001 x102002 x102003
def val_Norm.l0:Nat → Int → Int → Int → ByteArray → Option (Int × Int × Int × ByteArray)
 | 0,_,_,_,_=>none
 | k + 1,x102000,x102001,x102002,x102003=>if x102000 = 3 then (if x102002 > 0 then (if (Int.tmod x102001 10) = 0 then (val_Norm.l0 k x102000 (wrap64 (Int.tdiv x102001 10)) (wrap64 (x102002 - 1)) x102003) else (some (x102000,x102001,x102002,x102003))) else (some (x102000,x102001,x102002,x102003))) else (some (x102000,x102001,x102002,x102003))
end
def val_Norm.f (k:Nat) (a0_0:Int) (a0_1:Int) (a0_2:Int) (a0_3:ByteArray):Option (Int × Int × Int × ByteArray):=if a0_0 = 3 then (val_Norm.j0 k (a0_1 == 0) a0_0 a0_1 a0_2 a0_3) else (val_Norm.j0 k false a0_0 a0_1 a0_2 a0_3)
theorem val_Norm.mono_l:∀ k,(∀ y0 y1 y2 y3 y4,LeO (val_Norm.j0 k y0 y1 y2 y3 y4) (val_Norm.j0 (k + 1) y0 y1 y2 y3 y4)) ∧ (∀ y0 y1 y2 y3,LeO (val_Norm.j1 k y0 y1 y2 y3) (val_Norm.j1 (k + 1) y0 y1 y2 y3)) ∧ (∀ y0 y1 y2 y3,LeO (val_Norm.l0 k y0 y1 y2 y3) (val_Norm.l0 (k + 1) y0 y1 y2 y3))
 | 0=>⟨fun _ _ _ _ _ r h=>by simp [val_Norm.j0] at h,fun _ _ _ _ r h=>by simp [val_Norm.j1] at h,fun _ _ _ _ r h=>by simp [val_Norm.l0] at h⟩
 | k + 1=>by
  obtain ⟨ih0,ih1,ih2⟩:=val_Norm.mono_l k
  refine ⟨?_,?_,?_⟩
  ·intro y0 y1 y2 y3 y4
   unfold val_Norm.j0
   repeat' first
   | (with_reducible exact ih0 _ _ _ _ _)
   | (with_reducible exact ih1 _ _ _ _)
   | (with_reducible exact ih2 _ _ _ _)
   | (with_reducible exact LeO.refl _)
   | (with_reducible exact LeO.none _)
   | (with_reducible refine LeO.ite ?_ ?_)
   | (with_reducible refine LeO.bind ?_ (fun _=>?_))
   | exact ih0 _ _ _ _ _
   | exact ih1 _ _ _ _
   | exact ih2 _ _ _ _
   | exact LeO.none _
   | refine LeO.ite ?_ ?_
   | refine LeO.bind ?_ (fun _=>?_)
  ·intro y0 y1 y2 y3
   unfold val_Norm.j1
   repeat' first
   | (with_reducible exact ih0 _ _ _ _ _)
   | (with_reducible exact ih1 _ _ _ _)
   | (with_reducible exact ih2 _ _ _ _)
   | (with_reducible exact LeO.refl _)
   | (with_reducible exact LeO.none _)
   | (with_reducible refine LeO.ite ?_ ?_)
   | (with_reducible refine LeO.bind ?_ (fun _=>?_))
   | exact ih0 _ _ _ _ _
   | exact ih1 _ _ _ _
   | exact ih2 _ _ _ _
   | exact LeO.none _
   | refine LeO.ite ?_ ?_
   | refine LeO.bind ?_ (fun _=>?_)
  ·intro y0 y1 y2 y3
   unfold val_Norm.l0
   repeat' first
   | (with_reducible exact ih0 _ _ _ _ _)
   | (with_reducible exact ih1 _ _ _ _)
   | (with_reducible exact ih2 _ _ _ _)
   | (with_reducible exact LeO.refl _)
   | (with_reducible exact LeO.none _)
   | (with_reducible refine LeO.ite ?_ ?_)
   | (with_reducible refine LeO.bind ?_ (fun _=>?_))
   | exact ih0 _ _ _ _ _
   | exact ih1 _ _ _ _
   | exact ih2 _ _ _ _
   | exact LeO.none _
   | refine LeO.ite ?_ ?_
   | refine LeO.bind ?_ (fun _=>?_)
theorem val_Norm.mono:∀ a0 a1 a2 a3 k,LeO (val_Norm.f k a0 a1 a2 a3) (val_Norm.f (k + 1) a0 a1 a2 a3):=by
 intro a0 a1 a2 a3 k
 obtain ⟨ih0,ih1,ih2⟩:=val_Norm.mono_l k
 unfold val_Norm.f
 repeat' first
   | (with_reducible exact ih0 _ _ _ _ _)
   | (with_reducible exact ih1 _ _ _ _)
   | (with_reducible exact ih2 _ _ _ _)
   | (with_reducible exact LeO.refl _)
   | (with_reducible exact LeO.none _)
   | (with_reducible refine LeO.ite ?_ ?_)
   | (with_reducible refine LeO.bind ?_ (fun _=>?_))
   | exact ih0 _ _ _ _ _
   | exact ih1 _ _ _ _
   | exact ih2 _ _ _ _
   | exact LeO.none _
   | refine LeO.ite ?_ ?_
   | refine LeO.bind ?_ (fun _=>?_)
set_option maxHeartbeats 8000000 in
set_option maxRecDepth 100000 in
theorem val_Norm.calls (k:Nat) (a0_0:Int) (a0_1:Int) (a0_2:Int) (a0_3:ByteArray) (r1:Int) (r2:Int) (r3:Int) (r4:ByteArray) (w:World) (h:val_Norm.f k a0_0 a0_1 a0_2 a0_3 = some (r1,r2,r3,r4)) :
  Calls Try.prog 16 #[.agg #[.int .i64 a0_0, .int .i64 a0_1, .int .i64 a0_2, .string a0_3]] w fun e w'=>e = .returned (.agg #[.int .i64 r1, .int .i64 r2, .int .i64 r3, .string r4]) ∧ Below w.heap.size w w':=by
 have hu23:=Try.underlying23
 have HB:=z_ (Below.refl w.heap.size w)
 have H:(if a0_0 = 3 then (val_Norm.j0 k (a0_1 == 0) a0_0 a0_1 a0_2 a0_3) else (val_Norm.j0 k false a0_0 a0_1 a0_2 a0_3)) = some (r1,r2,r3,r4):=h
 clear h
 have HC2:=z_ H
 clear H
 go_enter Try.func16,Try.ntmps16
 go_upto_region 1 with (first|((with_reducible refine gate_dst (N:=1) rfl ?_);refine box_event ?hg (N:=1) ?hd (cs:=#[.int .i64 a0_0, .int .i64 a0_1, .int .i64 a0_2, .string a0_3]) (t:=23) ?hr ?_;(case hd=>rfl);(case hg=>rfl);(case hr=>first|(go_simp;done)|(go_simp;rfl));intro gb101 hg w3 hbox hb;have n0_:=z_ (below_step (by repeat first|(with_reducible first|exact HB.out|apply zA|apply zN|apply z1)|exact HB.out) hb);have n1_:=z_ (hbox);have n2_:=z_ ((by rw [hg];exact (zBs (by repeat first|(with_reducible first|exact HB.out|apply zA|apply zN|apply z1)|exact HB.out)):w.heap.size ≤ gb101));have n3_:=z_ ((by rw [hg];exact (zBs (by repeat first|(with_reducible first|exact HB.out|apply zA|apply zN|apply z1)|exact HB.out)):w.heap.size ≤ gb101));clear HB;have HB:=n0_;have BK101:=n1_;have GW101:=n2_;have GE101:=n3_;clear n0_ n1_ n2_ n3_;clear hb hbox hg)|((with_reducible refine gate_dst (N:=2) rfl ?_);refine box_event ?hg (N:=2) ?hd (cs:=#[.int .i64 0, .int .i64 0, .int .i64 0, .string (⟨#[]⟩:ByteArray)]) (t:=23) ?hr ?_;(case hd=>rfl);(case hg=>rfl);(case hr=>first|(go_simp;done)|(go_simp;rfl));intro gb102 hg w4 hbox hb;have n0_:=z_ (zbb (g:=gb101) (o:=.cells #[.int .i64 a0_0, .int .i64 a0_1, .int .i64 a0_2, .string a0_3] 23 (0,0)) (by (with_reducible repeat first|apply zbN|apply zb1|apply zbA);exact BK101.out) hb);have n1_:=z_ (below_step (by repeat first|(with_reducible first|exact HB.out|apply zA|apply zN|apply z1|refine zS ?_ GE101.out)|exact HB.out) hb);have n2_:=z_ (hbox);have n3_:=z_ ((by rw [hg];exact (zBs (by repeat first|(with_reducible first|exact HB.out|apply zA|apply zN|apply z1|refine zS ?_ GE101.out)|exact HB.out)):w.heap.size ≤ gb102));have n4_:=z_ ((by rw [hg];exact (zBs (by repeat first|(with_reducible first|exact HB.out|apply zA|apply zN|apply z1|refine zS ?_ GE101.out)|exact HB.out)):w.heap.size ≤ gb102));have n5_:=z_ ((by rw [hg];exact Nat.ne_of_lt (blk_lt (g:=gb101) (o:=.cells #[.int .i64 a0_0, .int .i64 a0_1, .int .i64 a0_2, .string a0_3] 23 (0,0)) (by (with_reducible repeat first|apply zbN|apply zb1|apply zbA);exact BK101.out)):gb101 ≠ gb102));have n6_:=z_ ((by rw [hg];exact Nat.ne_of_gt (blk_lt (g:=gb101) (o:=.cells #[.int .i64 a0_0, .int .i64 a0_1, .int .i64 a0_2, .string a0_3] 23 (0,0)) (by (with_reducible repeat first|apply zbN|apply zb1|apply zbA);exact BK101.out)):gb102 ≠ gb101));clear BK101;clear HB;have BK101:=n0_;have HB:=n1_;have BK102:=n2_;have GW102:=n3_;have GE102:=n4_;have NB101_102:=n5_;have NB102_101:=n6_;clear n0_ n1_ n2_ n3_ n4_ n5_ n6_;clear hb hbox hg))
 (try simp only [Act.put,List.setIfInBounds_toArray,List.set_cons_zero,List.set_cons_succ])
 go_cut [10] (fun v10 wc=>∃ (kq:Nat) (x10_1:Bool),v10 = .bool x10_1 ∧ Aside0 (val_Norm.j0 kq x10_1 a0_0 a0_1 a0_2 a0_3 = some (r1,r2,r3,r4)) ∧ Aside0 (kq ≤ k) ∧ Aside0 (wc.heap[gb101]? = some (.cells #[.int .i64 a0_0, .int .i64 a0_1, .int .i64 a0_2, .string a0_3] 23 (0,0))) ∧ Aside0 (wc.heap[gb102]? = some (.cells #[.int .i64 0, .int .i64 0, .int .i64 0, .string (⟨#[]⟩:ByteArray)] 23 (0,0))) ∧ Aside0 (Below w.heap.size w wc))
 case first =>
  have H:=HC2.out
  clear HC2
  by_cases c5:a0_0 = 3
  ·rw [if_pos c5] at H
   have c5b0:(a0_0 == 3) = true:=beq_iff_eq.mpr c5
   have c5b1:(a0_0 != 3) = false:=bne_eq_false_iff_eq.mpr c5
   clear c5
   (first|rw [c5b0]|(simp only [i64_w,i32_w];rw [c5b0])|skip)
   have H':=z_ H
   clear H
   have hnb6:=NB101_102.out
   have hnc6:=NB102_101.out
   have hcz7_0:w4.cell? ⟨gb101,0,none⟩ = some (.int .i64 a0_0):=(zce BK101.out 0).trans rfl
   have hcz7_1:w4.cell? ⟨gb101,1,none⟩ = some (.int .i64 a0_1):=(zce BK101.out 1).trans rfl
   have hcz7_2:w4.cell? ⟨gb101,2,none⟩ = some (.int .i64 a0_2):=(zce BK101.out 2).trans rfl
   have hcz7_3:w4.cell? ⟨gb101,3,none⟩ = some (.string a0_3):=(zce BK101.out 3).trans rfl
   have hfz7_0:=zfz BK101.out 0
   have hfz7_1:=zfz BK101.out 1
   have hfz7_2:=zfz BK101.out 2
   have hfz7_3:=zfz BK101.out 3
   go_wp2
   go_meet
   case rel=>exact ⟨_,((a0_1 == 0)),(by first|rfl|(simp;done)|(simp [*];done)),H',⟨by first|omega|exact Nat.le_refl _⟩,⟨by (with_reducible repeat first|apply zbN|apply zb1|apply zbA);exact BK101.out⟩,⟨by (with_reducible repeat first|apply zbN|apply zb1|apply zbA);exact BK102.out⟩,⟨by repeat first|(with_reducible first|exact HB.out|apply zA|apply zN|apply z1|refine zS ?_ GE101.out|refine zS ?_ GE102.out)|exact HB.out⟩⟩
  ·rw [if_neg c5] at H
   have c5b0:(a0_0 == 3) = false:=beq_eq_false_iff_ne.mpr c5
   have c5b1:(a0_0 != 3) = true:=bne_iff_ne.mpr c5
   (first|rw [c5b0]|(simp only [i64_w,i32_w];rw [c5b0])|skip)
   have H':=z_ H
   clear H
   have hnb8:=NB101_102.out
   have hnc8:=NB102_101.out
   have hcz9_0:w4.cell? ⟨gb101,0,none⟩ = some (.int .i64 a0_0):=(zce BK101.out 0).trans rfl
   have hcz9_1:w4.cell? ⟨gb101,1,none⟩ = some (.int .i64 a0_1):=(zce BK101.out 1).trans rfl
   have hcz9_2:w4.cell? ⟨gb101,2,none⟩ = some (.int .i64 a0_2):=(zce BK101.out 2).trans rfl
   have hcz9_3:w4.cell? ⟨gb101,3,none⟩ = some (.string a0_3):=(zce BK101.out 3).trans rfl
   have hfz9_0:=zfz BK101.out 0
   have hfz9_1:=zfz BK101.out 1
   have hfz9_2:=zfz BK101.out 2
   have hfz9_3:=zfz BK101.out 3
   go_wp2
   go_meet
   case rel=>exact ⟨_,(false),(by first|rfl|(simp;done)|(simp [*];done)),H',⟨by first|omega|exact Nat.le_refl _⟩,⟨by (with_reducible repeat first|apply zbN|apply zb1|apply zbA);exact BK101.out⟩,⟨by (with_reducible repeat first|apply zbN|apply zb1|apply zbA);exact BK102.out⟩,⟨by repeat first|(with_reducible first|exact HB.out|apply zA|apply zN|apply z1|refine zS ?_ GE101.out|refine zS ?_ GE102.out)|exact HB.out⟩⟩
 case rest =>
  clear HC2
  try clear c1
  try clear p2
  try clear c5
  try clear c5b0
  try clear c5b1
  try clear c6
  try clear c8
  try clear hcz7_0
  try clear hcz7_1
  try clear hcz7_2
  try clear hcz7_3
  try clear hcz9_0
  try clear hcz9_1
  try clear hcz9_2
  try clear hcz9_3
  try clear hfz7_0
  try clear hfz7_1
  try clear hfz7_2
  try clear hfz7_3
  try clear hfz9_0
  try clear hfz9_1
  try clear hfz9_2
  try clear hfz9_3
  obtain ⟨kq,x10_1,rfl,HA,HJ1,BK101,BK102,HB⟩:=hcut
  cases kq with
  | zero=>exact absurd HA.out (by simp [val_Norm.j0])
  | succ kj1 =>
   have H:=HA.out
   clear HA
   simp only [val_Norm.j0] at H
   have HC10:=z_ H
   clear H
   go_upto_if 10 with (fail)
   go_cut [] (fun wc=>∃ (kq:Nat) (x102002_9:Int),Aside0 (val_Norm.j1 kq a0_0 a0_1 x102002_9 a0_3 = some (r1,r2,r3,r4)) ∧ Aside0 (kq ≤ kj1) ∧ Aside0 (wc.heap[gb101]? = some (.cells #[.int .i64 a0_0, .int .i64 a0_1, .int .i64 x102002_9, .string a0_3] 23 (0,0))) ∧ Aside0 (wc.heap[gb102]? = some (.cells #[.int .i64 0, .int .i64 0, .int .i64 0, .string (⟨#[]⟩:ByteArray)] 23 (0,0))) ∧ Aside0 (Below w.heap.size w wc))
   case first =>
    have H:=HC10.out
    clear HC10
    by_cases c11:x10_1 = true
    ·subst c11
     have H1:(val_Norm.j1 kj1 a0_0 a0_1 (mn a0_2 0) a0_3) = some (r1,r2,r3,r4):=by rw [if_pos rfl] at H;exact H
     clear H
     have H:=H1
     clear H1
     obtain ⟨ji12,hji12⟩:∃ j_:Int,(mn a0_2 0) = j_:=⟨_,rfl⟩
     replace H:(val_Norm.j1 kj1 a0_0 a0_1 ji12 a0_3) = some (r1,r2,r3,r4):=by first|(rw [hji12] at H;exact H)|(simp only [hji12] at H ⊢;exact H)
     have hji12_:(if 0 < a0_2 then 0 else a0_2) = ji12:=hji12
     have H':=z_ H
     clear H
     have hnb13:=NB101_102.out
     have hnc13:=NB102_101.out
     have hcz14_0:wc.cell? ⟨gb101,0,none⟩ = some (.int .i64 a0_0):=(zce BK101.out 0).trans rfl
     have hcz14_1:wc.cell? ⟨gb101,1,none⟩ = some (.int .i64 a0_1):=(zce BK101.out 1).trans rfl
     have hcz14_2:wc.cell? ⟨gb101,2,none⟩ = some (.int .i64 a0_2):=(zce BK101.out 2).trans rfl
     have hcz14_3:wc.cell? ⟨gb101,3,none⟩ = some (.string a0_3):=(zce BK101.out 3).trans rfl
     have hfz14_0:=zfz BK101.out 0
     have hfz14_1:=zfz BK101.out 1
     have hfz14_2:=zfz BK101.out 2
     have hfz14_3:=zfz BK101.out 3
     go_wp2
     go_meet
     case rel=>exact ⟨_,(ji12),(by first|with_reducible exact H'|(rw [hji12];exact H')|exact H'),⟨by have:=HJ1.out;first|omega|exact Nat.le_refl _⟩,⟨by (with_reducible repeat first|apply zbN|apply zb1|apply zbA);refine zbp (cs:=#[.int .i64 a0_0, .int .i64 a0_1, .int .i64 a0_2, .string a0_3]) ?_ 2 _ rfl;(with_reducible repeat first|apply zbN|apply zb1|apply zbA);exact BK101.out⟩,⟨by (with_reducible repeat first|apply zbN|apply zb1|apply zbA);refine zbf ?_ NB102_101.out _;(with_reducible repeat first|apply zbN|apply zb1|apply zbA);exact BK102.out⟩,⟨by repeat first|(with_reducible first|exact HB.out|apply zA|apply zN|apply z1|refine zS ?_ GE101.out|refine zS ?_ GE102.out)|exact HB.out⟩⟩
    ·replace c11:=Bool.eq_false_iff.mpr c11
     subst c11
     have H1:(val_Norm.j1 kj1 a0_0 a0_1 a0_2 a0_3) = some (r1,r2,r3,r4):=by rw [if_neg (show ¬ (false = true) by decide)] at H;exact H
     clear H
     have H:=H1
     clear H1
     have H':=z_ H
     clear H
     go_wp2
     go_meet
     case rel=>exact ⟨_,(a0_2),(by first|with_reducible exact H'|(rw [hji12];exact H')|exact H'),⟨by have:=HJ1.out;first|omega|exact Nat.le_refl _⟩,⟨by (with_reducible repeat first|apply zbN|apply zb1|apply zbA);exact BK101.out⟩,⟨by (with_reducible repeat first|apply zbN|apply zb1|apply zbA);exact BK102.out⟩,⟨by repeat first|(with_reducible first|exact HB.out|apply zA|apply zN|apply z1|refine zS ?_ GE101.out|refine zS ?_ GE102.out)|exact HB.out⟩⟩
   case rest =>
    clear HC10
    try clear c1
    try clear p2
    try clear c5
    try clear c5b0
    try clear c5b1
    try clear c6
    try clear c8
    try clear c11
    try clear c13
    try clear hcz14_0
    try clear hcz14_1
    try clear hcz14_2
    try clear hcz14_3
    try clear hcz7_0
    try clear hcz7_1
    try clear hcz7_2
    try clear hcz7_3
    try clear hcz9_0
    try clear hcz9_1
    try clear hcz9_2
    try clear hcz9_3
    try clear hfz14_0
    try clear hfz14_1
    try clear hfz14_2
    try clear hfz14_3
    try clear hfz7_0
    try clear hfz7_1
    try clear hfz7_2
    try clear hfz7_3
    try clear hfz9_0
    try clear hfz9_1
    try clear hfz9_2
    try clear hfz9_3
    try clear p2
    obtain ⟨kq,x102002_9,HA,HJ9,BK101,BK102,HB⟩:=hcut
    cases kq with
    | zero=>exact absurd HA.out (by simp [val_Norm.j1])
    | succ kj9 =>
     have H:=HA.out
     clear HA
     simp only [val_Norm.j1] at H
     have H':=z_ H
     clear H
     go_wp2
     go_loopg [] kj9 (fun kq w'=>∃ (x102001_3:Int) (x102002_3:Int),Aside0 (val_Norm.l0 kq a0_0 x102001_3 x102002_3 a0_3 = some (r1,r2,r3,r4)) ∧ Aside0 (kq ≤ kj9) ∧ Aside0 (w'.heap[gb101]? = some (.cells #[.int .i64 a0_0, .int .i64 x102001_3, .int .i64 x102002_3, .string a0_3] 23 (0,0))) ∧ Aside0 (w'.heap[gb102]? = some (.cells #[.int .i64 0, .int .i64 0, .int .i64 0, .string (⟨#[]⟩:ByteArray)] 23 (0,0))) ∧ Aside0 (Below w.heap.size w w'))
     case atStart=>exact ⟨(a0_1),(x102002_9),H',⟨Nat.le_refl _⟩,⟨by (with_reducible repeat first|apply zbN|apply zb1|apply zbA);exact BK101.out⟩,⟨by (with_reducible repeat first|apply zbN|apply zb1|apply zbA);exact BK102.out⟩,⟨by repeat first|(with_reducible first|exact HB.out|apply zA|apply zN|apply z1|refine zS ?_ GE101.out|refine zS ?_ GE102.out)|exact HB.out⟩⟩
     case round =>
      clear H'
      try clear c1
      try clear p2
      try clear c5
      try clear c5b0
      try clear c5b1
      try clear c6
      try clear c8
      try clear c11
      try clear c13
      try clear hcz14_0
      try clear hcz14_1
      try clear hcz14_2
      try clear hcz14_3
      try clear hcz7_0
      try clear hcz7_1
      try clear hcz7_2
      try clear hcz7_3
      try clear hcz9_0
      try clear hcz9_1
      try clear hcz9_2
      try clear hcz9_3
      try clear hfz14_0
      try clear hfz14_1
      try clear hfz14_2
      try clear hfz14_3
      try clear hfz7_0
      try clear hfz7_1
      try clear hfz7_2
      try clear hfz7_3
      try clear hfz9_0
      try clear hfz9_1
      try clear hfz9_2
      try clear hfz9_3
      try clear p2
      obtain ⟨x102001_3,x102002_3,HA,HK3,BK101,BK102,HB⟩:=hrel
      cases gk with
      | zero=>exact absurd HA.out (by simp [val_Norm.l0])
      | succ k3 =>
       have H:=HA.out
       clear HA
       simp only [val_Norm.l0] at H
       by_cases c15:a0_0 = 3
       ·rw [if_pos c15] at H
        have c15b0:(a0_0 == 3) = true:=beq_iff_eq.mpr c15
        have c15b1:(a0_0 != 3) = false:=bne_eq_false_iff_eq.mpr c15
        clear c15
        by_cases c16:x102002_3 > 0
        ·rw [if_pos c16] at H
         have c16b0:decide (0 < x102002_3) = true:=decide_eq_true c16
         clear c16
         by_cases c17:(Int.tmod x102001_3 10) = 0
         ·rw [if_pos c17] at H
          have c17b0:((Int.tmod x102001_3 10) == 0) = true:=beq_iff_eq.mpr c17
          have c17b1:((Int.tmod x102001_3 10) != 0) = false:=bne_eq_false_iff_eq.mpr c17
          clear c17
          have H':=z_ H
          clear H
          have hnb18:=NB101_102.out
          have hnc18:=NB102_101.out
          have hcz19_0:wr.cell? ⟨gb101,0,none⟩ = some (.int .i64 a0_0):=(zce BK101.out 0).trans rfl
          have hcz19_1:wr.cell? ⟨gb101,1,none⟩ = some (.int .i64 x102001_3):=(zce BK101.out 1).trans rfl
          have hcz19_2:wr.cell? ⟨gb101,2,none⟩ = some (.int .i64 x102002_3):=(zce BK101.out 2).trans rfl
          have hcz19_3:wr.cell? ⟨gb101,3,none⟩ = some (.string a0_3):=(zce BK101.out 3).trans rfl
          have hfz19_0:=zfz BK101.out 0
          have hfz19_1:=zfz BK101.out 1
          have hfz19_2:=zfz BK101.out 2
          have hfz19_3:=zfz BK101.out 3
          go_wp2
          go_roundg k3
          case measure=>have:=HJ1.out;have:=HJ9.out;have:=HK3.out;omega
          case rel=>exact ⟨(wrap64 (Int.tdiv x102001_3 10)),(wrap64 (x102002_3 - 1)),(by first|with_reducible exact H'|(rw [hji12];exact H')|exact H'),⟨by have:=HJ1.out;have:=HJ9.out;have:=HK3.out;omega⟩,⟨by (with_reducible repeat first|apply zbN|apply zb1|apply zbA);refine zbp (cs:=#[.int .i64 a0_0, .int .i64 (wrap64 (Int.tdiv x102001_3 10)), .int .i64 x102002_3, .string a0_3]) ?_ 2 _ rfl;(with_reducible repeat first|apply zbN|apply zb1|apply zbA);refine zbp (cs:=#[.int .i64 a0_0, .int .i64 x102001_3, .int .i64 x102002_3, .string a0_3]) ?_ 1 _ rfl;(with_reducible repeat first|apply zbN|apply zb1|apply zbA);exact BK101.out⟩,⟨by (with_reducible repeat first|apply zbN|apply zb1|apply zbA);refine zbf ?_ NB102_101.out _;(with_reducible repeat first|apply zbN|apply zb1|apply zbA);refine zbf ?_ NB102_101.out _;(with_reducible repeat first|apply zbN|apply zb1|apply zbA);exact BK102.out⟩,⟨by repeat first|(with_reducible first|exact HB.out|apply zA|apply zN|apply z1|refine zS ?_ GE101.out|refine zS ?_ GE102.out)|exact HB.out⟩⟩
         ·rw [if_neg c17] at H
          have c17b0:((Int.tmod x102001_3 10) == 0) = false:=beq_eq_false_iff_ne.mpr c17
          have c17b1:((Int.tmod x102001_3 10) != 0) = true:=bne_iff_ne.mpr c17
          simp only [Option.some.injEq,Prod.mk.injEq] at H
          obtain ⟨rfl,rfl,rfl,rfl⟩:=H
          have hnb20:=NB101_102.out
          have hnc20:=NB102_101.out
          have hcz21_0:wr.cell? ⟨gb101,0,none⟩ = some (.int .i64 a0_0):=(zce BK101.out 0).trans rfl
          have hcz21_1:wr.cell? ⟨gb101,1,none⟩ = some (.int .i64 x102001_3):=(zce BK101.out 1).trans rfl
          have hcz21_2:wr.cell? ⟨gb101,2,none⟩ = some (.int .i64 x102002_3):=(zce BK101.out 2).trans rfl
          have hcz21_3:wr.cell? ⟨gb101,3,none⟩ = some (.string a0_3):=(zce BK101.out 3).trans rfl
          have hfz21_0:=zfz BK101.out 0
          have hfz21_1:=zfz BK101.out 1
          have hfz21_2:=zfz BK101.out 2
          have hfz21_3:=zfz BK101.out 3
          have hcz22_0:wr.cell? ⟨gb102,0,none⟩ = some (.int .i64 0):=(zce BK102.out 0).trans rfl
          have hcz22_1:wr.cell? ⟨gb102,1,none⟩ = some (.int .i64 0):=(zce BK102.out 1).trans rfl
          have hcz22_2:wr.cell? ⟨gb102,2,none⟩ = some (.int .i64 0):=(zce BK102.out 2).trans rfl
          have hcz22_3:wr.cell? ⟨gb102,3,none⟩ = some (.string (⟨#[]⟩:ByteArray)):=(zce BK102.out 3).trans rfl
          have hfz22_0:=zfz BK102.out 0
          have hfz22_1:=zfz BK102.out 1
          have hfz22_2:=zfz BK102.out 2
          have hfz22_3:=zfz BK102.out 3
          go_wp2
          refine bodyPost_ret (results_cell_row rfl _ _ gb102 23 #[.int .i64 a0_0, .int .i64 x102001_3, .int .i64 x102002_3, .string a0_3] (0,0) _ rfl (by (with_reducible repeat first|apply zbN|apply zb1|apply zbA);refine zbp (cs:=#[.int .i64 a0_0, .int .i64 x102001_3, .int .i64 x102002_3, .string (⟨#[]⟩:ByteArray)]) ?_ 3 _ rfl;(with_reducible repeat first|apply zbN|apply zb1|apply zbA);refine zbp (cs:=#[.int .i64 a0_0, .int .i64 x102001_3, .int .i64 0, .string (⟨#[]⟩:ByteArray)]) ?_ 2 _ rfl;(with_reducible repeat first|apply zbN|apply zb1|apply zbA);refine zbp (cs:=#[.int .i64 a0_0, .int .i64 0, .int .i64 0, .string (⟨#[]⟩:ByteArray)]) ?_ 1 _ rfl;(with_reducible repeat first|apply zbN|apply zb1|apply zbA);refine zbp (cs:=#[.int .i64 0, .int .i64 0, .int .i64 0, .string (⟨#[]⟩:ByteArray)]) ?_ 0 _ rfl;(with_reducible repeat first|apply zbN|apply zb1|apply zbA);exact BK102.out) Try.underlying23 rfl (by kernel_rfl)) rfl ?_
          exact ⟨by first|rfl|(simp [errW_none,errW_some] <;> rfl)|(simp [*,errW_none,errW_some] <;> rfl),by repeat first|(with_reducible first|exact HB.out|apply zA|apply zN|apply z1|refine zS ?_ GE101.out|refine zS ?_ GE102.out)|exact HB.out⟩
        ·rw [if_neg c16] at H
         have c16b0:decide (0 < x102002_3) = false:=decide_eq_false c16
         clear c16
         simp only [Option.some.injEq,Prod.mk.injEq] at H
         obtain ⟨rfl,rfl,rfl,rfl⟩:=H
         have hnb23:=NB101_102.out
         have hnc23:=NB102_101.out
         have hcz24_0:wr.cell? ⟨gb101,0,none⟩ = some (.int .i64 a0_0):=(zce BK101.out 0).trans rfl
         have hcz24_1:wr.cell? ⟨gb101,1,none⟩ = some (.int .i64 x102001_3):=(zce BK101.out 1).trans rfl
         have hcz24_2:wr.cell? ⟨gb101,2,none⟩ = some (.int .i64 x102002_3):=(zce BK101.out 2).trans rfl
         have hcz24_3:wr.cell? ⟨gb101,3,none⟩ = some (.string a0_3):=(zce BK101.out 3).trans rfl
         have hfz24_0:=zfz BK101.out 0
         have hfz24_1:=zfz BK101.out 1
         have hfz24_2:=zfz BK101.out 2
         have hfz24_3:=zfz BK101.out 3
         have hcz25_0:wr.cell? ⟨gb102,0,none⟩ = some (.int .i64 0):=(zce BK102.out 0).trans rfl
         have hcz25_1:wr.cell? ⟨gb102,1,none⟩ = some (.int .i64 0):=(zce BK102.out 1).trans rfl
         have hcz25_2:wr.cell? ⟨gb102,2,none⟩ = some (.int .i64 0):=(zce BK102.out 2).trans rfl
         have hcz25_3:wr.cell? ⟨gb102,3,none⟩ = some (.string (⟨#[]⟩:ByteArray)):=(zce BK102.out 3).trans rfl
         have hfz25_0:=zfz BK102.out 0
         have hfz25_1:=zfz BK102.out 1
         have hfz25_2:=zfz BK102.out 2
         have hfz25_3:=zfz BK102.out 3
         go_wp2
         refine bodyPost_ret (results_cell_row rfl _ _ gb102 23 #[.int .i64 a0_0, .int .i64 x102001_3, .int .i64 x102002_3, .string a0_3] (0,0) _ rfl (by (with_reducible repeat first|apply zbN|apply zb1|apply zbA);refine zbp (cs:=#[.int .i64 a0_0, .int .i64 x102001_3, .int .i64 x102002_3, .string (⟨#[]⟩:ByteArray)]) ?_ 3 _ rfl;(with_reducible repeat first|apply zbN|apply zb1|apply zbA);refine zbp (cs:=#[.int .i64 a0_0, .int .i64 x102001_3, .int .i64 0, .string (⟨#[]⟩:ByteArray)]) ?_ 2 _ rfl;(with_reducible repeat first|apply zbN|apply zb1|apply zbA);refine zbp (cs:=#[.int .i64 a0_0, .int .i64 0, .int .i64 0, .string (⟨#[]⟩:ByteArray)]) ?_ 1 _ rfl;(with_reducible repeat first|apply zbN|apply zb1|apply zbA);refine zbp (cs:=#[.int .i64 0, .int .i64 0, .int .i64 0, .string (⟨#[]⟩:ByteArray)]) ?_ 0 _ rfl;(with_reducible repeat first|apply zbN|apply zb1|apply zbA);exact BK102.out) Try.underlying23 rfl (by kernel_rfl)) rfl ?_
         exact ⟨by first|rfl|(simp [errW_none,errW_some] <;> rfl)|(simp [*,errW_none,errW_some] <;> rfl),by repeat first|(with_reducible first|exact HB.out|apply zA|apply zN|apply z1|refine zS ?_ GE101.out|refine zS ?_ GE102.out)|exact HB.out⟩
       ·rw [if_neg c15] at H
        have c15b0:(a0_0 == 3) = false:=beq_eq_false_iff_ne.mpr c15
        have c15b1:(a0_0 != 3) = true:=bne_iff_ne.mpr c15
        simp only [Option.some.injEq,Prod.mk.injEq] at H
        obtain ⟨rfl,rfl,rfl,rfl⟩:=H
        have hnb26:=NB101_102.out
        have hnc26:=NB102_101.out
        have hcz27_0:wr.cell? ⟨gb101,0,none⟩ = some (.int .i64 a0_0):=(zce BK101.out 0).trans rfl
        have hcz27_1:wr.cell? ⟨gb101,1,none⟩ = some (.int .i64 x102001_3):=(zce BK101.out 1).trans rfl
        have hcz27_2:wr.cell? ⟨gb101,2,none⟩ = some (.int .i64 x102002_3):=(zce BK101.out 2).trans rfl
        have hcz27_3:wr.cell? ⟨gb101,3,none⟩ = some (.string a0_3):=(zce BK101.out 3).trans rfl
        have hfz27_0:=zfz BK101.out 0
        have hfz27_1:=zfz BK101.out 1
        have hfz27_2:=zfz BK101.out 2
        have hfz27_3:=zfz BK101.out 3
        have hcz28_0:wr.cell? ⟨gb102,0,none⟩ = some (.int .i64 0):=(zce BK102.out 0).trans rfl
        have hcz28_1:wr.cell? ⟨gb102,1,none⟩ = some (.int .i64 0):=(zce BK102.out 1).trans rfl
        have hcz28_2:wr.cell? ⟨gb102,2,none⟩ = some (.int .i64 0):=(zce BK102.out 2).trans rfl
        have hcz28_3:wr.cell? ⟨gb102,3,none⟩ = some (.string (⟨#[]⟩:ByteArray)):=(zce BK102.out 3).trans rfl
        have hfz28_0:=zfz BK102.out 0
        have hfz28_1:=zfz BK102.out 1
        have hfz28_2:=zfz BK102.out 2
        have hfz28_3:=zfz BK102.out 3
        go_wp2
        refine bodyPost_ret (results_cell_row rfl _ _ gb102 23 #[.int .i64 a0_0, .int .i64 x102001_3, .int .i64 x102002_3, .string a0_3] (0,0) _ rfl (by (with_reducible repeat first|apply zbN|apply zb1|apply zbA);refine zbp (cs:=#[.int .i64 a0_0, .int .i64 x102001_3, .int .i64 x102002_3, .string (⟨#[]⟩:ByteArray)]) ?_ 3 _ rfl;(with_reducible repeat first|apply zbN|apply zb1|apply zbA);refine zbp (cs:=#[.int .i64 a0_0, .int .i64 x102001_3, .int .i64 0, .string (⟨#[]⟩:ByteArray)]) ?_ 2 _ rfl;(with_reducible repeat first|apply zbN|apply zb1|apply zbA);refine zbp (cs:=#[.int .i64 a0_0, .int .i64 0, .int .i64 0, .string (⟨#[]⟩:ByteArray)]) ?_ 1 _ rfl;(with_reducible repeat first|apply zbN|apply zb1|apply zbA);refine zbp (cs:=#[.int .i64 0, .int .i64 0, .int .i64 0, .string (⟨#[]⟩:ByteArray)]) ?_ 0 _ rfl;(with_reducible repeat first|apply zbN|apply zb1|apply zbA);exact BK102.out) Try.underlying23 rfl (by kernel_rfl)) rfl ?_
        exact ⟨by first|rfl|(simp [errW_none,errW_some] <;> rfl)|(simp [*,errW_none,errW_some] <;> rfl),by repeat first|(with_reducible first|exact HB.out|apply zA|apply zN|apply z1|refine zS ?_ GE101.out|refine zS ?_ GE102.out)|exact HB.out⟩
end Go.Proofs.Ytllkhdhanheieaa.R
namespace Go.Proofs.Ytllkhdhanheieaa.R
open Go.RowKit Go.Proofs.YtllkhdhanheieaaW.PrintWords Go.Proofs.YtllkhdhanheieaaW.PrintLast Go.Proofs.YtllkhdhanheieaaW.PrintMore
attribute [local go_sem] max2_int min2_int max_two min_two max_three min_three max_four min_four
attribute [local go_sem high] own_gtr own_leq own_geq own_cell_set Option.map_some fld23_1
set_option linter.unusedVariables false
set_option linter.unusedSimpArgs false
def val_reckons.f (a0_0:Int) (a0_1:Int) (a0_2:Int) (a0_3:ByteArray):Option (Bool):=if a0_0 = 0 then (some true) else (if a0_0 = 2 then (some true) else (some (a0_0 == 3)))
set_option maxHeartbeats 8000000 in
set_option maxRecDepth 100000 in
theorem val_reckons.calls (a0_0:Int) (a0_1:Int) (a0_2:Int) (a0_3:ByteArray) (r:Bool) (w:World) (h:val_reckons.f a0_0 a0_1 a0_2 a0_3 = some r) :
  Calls Try.prog 31 #[.agg #[.int .i64 a0_0, .int .i64 a0_1, .int .i64 a0_2, .string a0_3]] w fun e w'=>e = .returned (.bool r) ∧ Below w.heap.size w w':=by
 have hu23:=Try.underlying23
 have HB:=z_ (Below.refl w.heap.size w)
 have H:(if a0_0 = 0 then (some true) else (if a0_0 = 2 then (some true) else (some (a0_0 == 3)))) = some r:=h
 clear h
 by_cases c2:a0_0 = 0
 ·rw [if_pos c2] at H
  have c2b0:(a0_0 == 0) = true:=beq_iff_eq.mpr c2
  have c2b1:(a0_0 != 0) = false:=bne_eq_false_iff_eq.mpr c2
  clear c2
  obtain rfl:=Option.some.inj H
  go_enter Try.func31,Try.ntmps31
  go_wp2_with (first|((with_reducible refine gate_dst (N:=1) rfl ?_);refine box_event ?hg (N:=1) ?hd (cs:=#[.int .i64 a0_0, .int .i64 a0_1, .int .i64 a0_2, .string a0_3]) (t:=23) ?hr ?_;(case hd=>rfl);(case hg=>rfl);(case hr=>first|(go_simp;done)|(go_simp;rfl));intro gb101 hg w3 hbox hb;have n0_:=z_ (below_step (by repeat first|(with_reducible first|exact HB.out|apply zA|apply zN|apply z1)|exact HB.out) hb);have n1_:=z_ (hbox);have n2_:=z_ ((by rw [hg];exact (zBs (by repeat first|(with_reducible first|exact HB.out|apply zA|apply zN|apply z1)|exact HB.out)):w.heap.size ≤ gb101));have n3_:=z_ ((by rw [hg];exact (zBs (by repeat first|(with_reducible first|exact HB.out|apply zA|apply zN|apply z1)|exact HB.out)):w.heap.size ≤ gb101));clear HB;have HB:=n0_;have BK101:=n1_;have GW101:=n2_;have GE101:=n3_;clear n0_ n1_ n2_ n3_;clear hb hbox hg;have hcz4_0:w3.cell? ⟨gb101,0,none⟩ = some (.int .i64 a0_0):=(zce BK101.out 0).trans rfl;have hcz4_1:w3.cell? ⟨gb101,1,none⟩ = some (.int .i64 a0_1):=(zce BK101.out 1).trans rfl;have hcz4_2:w3.cell? ⟨gb101,2,none⟩ = some (.int .i64 a0_2):=(zce BK101.out 2).trans rfl;have hcz4_3:w3.cell? ⟨gb101,3,none⟩ = some (.string a0_3):=(zce BK101.out 3).trans rfl;have hfz4_0:=zfz BK101.out 0;have hfz4_1:=zfz BK101.out 1;have hfz4_2:=zfz BK101.out 2;have hfz4_3:=zfz BK101.out 3))
  go_ret
  exact ⟨by first|rfl|(simp [errW_none,errW_some] <;> rfl)|(simp [*,errW_none,errW_some] <;> rfl),by repeat first|(with_reducible first|exact HB.out|apply zA|apply zN|apply z1|refine zS ?_ GE101.out)|exact HB.out⟩
 ·rw [if_neg c2] at H
  have c2b0:(a0_0 == 0) = false:=beq_eq_false_iff_ne.mpr c2
  have c2b1:(a0_0 != 0) = true:=bne_iff_ne.mpr c2
  by_cases c5:a0_0 = 2
  ·rw [if_pos c5] at H
   have c5b0:(a0_0 == 2) = true:=beq_iff_eq.mpr c5
   have c5b1:(a0_0 != 2) = false:=bne_eq_false_iff_eq.mpr c5
   clear c5
   obtain rfl:=Option.some.inj H
   go_enter Try.func31,Try.ntmps31
   go_wp2_with (first|((with_reducible refine gate_dst (N:=1) rfl ?_);refine box_event ?hg (N:=1) ?hd (cs:=#[.int .i64 a0_0, .int .i64 a0_1, .int .i64 a0_2, .string a0_3]) (t:=23) ?hr ?_;(case hd=>rfl);(case hg=>rfl);(case hr=>first|(go_simp;done)|(go_simp;rfl));intro gb101 hg w6 hbox hb;have n0_:=z_ (below_step (by repeat first|(with_reducible first|exact HB.out|apply zA|apply zN|apply z1)|exact HB.out) hb);have n1_:=z_ (hbox);have n2_:=z_ ((by rw [hg];exact (zBs (by repeat first|(with_reducible first|exact HB.out|apply zA|apply zN|apply z1)|exact HB.out)):w.heap.size ≤ gb101));have n3_:=z_ ((by rw [hg];exact (zBs (by repeat first|(with_reducible first|exact HB.out|apply zA|apply zN|apply z1)|exact HB.out)):w.heap.size ≤ gb101));clear HB;have HB:=n0_;have BK101:=n1_;have GW101:=n2_;have GE101:=n3_;clear n0_ n1_ n2_ n3_;clear hb hbox hg;have hcz7_0:w6.cell? ⟨gb101,0,none⟩ = some (.int .i64 a0_0):=(zce BK101.out 0).trans rfl;have hcz7_1:w6.cell? ⟨gb101,1,none⟩ = some (.int .i64 a0_1):=(zce BK101.out 1).trans rfl;have hcz7_2:w6.cell? ⟨gb101,2,none⟩ = some (.int .i64 a0_2):=(zce BK101.out 2).trans rfl;have hcz7_3:w6.cell? ⟨gb101,3,none⟩ = some (.string a0_3):=(zce BK101.out 3).trans rfl;have hfz7_0:=zfz BK101.out 0;have hfz7_1:=zfz BK101.out 1;have hfz7_2:=zfz BK101.out 2;have hfz7_3:=zfz BK101.out 3))
   go_ret
   exact ⟨by first|rfl|(simp [errW_none,errW_some] <;> rfl)|(simp [*,errW_none,errW_some] <;> rfl),by repeat first|(with_reducible first|exact HB.out|apply zA|apply zN|apply z1|refine zS ?_ GE101.out)|exact HB.out⟩
  ·rw [if_neg c5] at H
   have c5b0:(a0_0 == 2) = false:=beq_eq_false_iff_ne.mpr c5
   have c5b1:(a0_0 != 2) = true:=bne_iff_ne.mpr c5
   obtain rfl:=Option.some.inj H
   go_enter Try.func31,Try.ntmps31
   go_wp2_with (first|((with_reducible refine gate_dst (N:=1) rfl ?_);refine box_event ?hg (N:=1) ?hd (cs:=#[.int .i64 a0_0, .int .i64 a0_1, .int .i64 a0_2, .string a0_3]) (t:=23) ?hr ?_;(case hd=>rfl);(case hg=>rfl);(case hr=>first|(go_simp;done)|(go_simp;rfl));intro gb101 hg w8 hbox hb;have n0_:=z_ (below_step (by repeat first|(with_reducible first|exact HB.out|apply zA|apply zN|apply z1)|exact HB.out) hb);have n1_:=z_ (hbox);have n2_:=z_ ((by rw [hg];exact (zBs (by repeat first|(with_reducible first|exact HB.out|apply zA|apply zN|apply z1)|exact HB.out)):w.heap.size ≤ gb101));have n3_:=z_ ((by rw [hg];exact (zBs (by repeat first|(with_reducible first|exact HB.out|apply zA|apply zN|apply z1)|exact HB.out)):w.heap.size ≤ gb101));clear HB;have HB:=n0_;have BK101:=n1_;have GW101:=n2_;have GE101:=n3_;clear n0_ n1_ n2_ n3_;clear hb hbox hg;have hcz9_0:w8.cell? ⟨gb101,0,none⟩ = some (.int .i64 a0_0):=(zce BK101.out 0).trans rfl;have hcz9_1:w8.cell? ⟨gb101,1,none⟩ = some (.int .i64 a0_1):=(zce BK101.out 1).trans rfl;have hcz9_2:w8.cell? ⟨gb101,2,none⟩ = some (.int .i64 a0_2):=(zce BK101.out 2).trans rfl;have hcz9_3:w8.cell? ⟨gb101,3,none⟩ = some (.string a0_3):=(zce BK101.out 3).trans rfl;have hfz9_0:=zfz BK101.out 0;have hfz9_1:=zfz BK101.out 1;have hfz9_2:=zfz BK101.out 2;have hfz9_3:=zfz BK101.out 3))
   go_ret
   exact ⟨by first|rfl|(simp [errW_none,errW_some] <;> rfl)|(simp [*,errW_none,errW_some] <;> rfl),by repeat first|(with_reducible first|exact HB.out|apply zA|apply zN|apply z1|refine zS ?_ GE101.out)|exact HB.out⟩
end Go.Proofs.Ytllkhdhanheieaa.R
namespace Go.Proofs.Ytllkhdhanheieaa.R
open Go.RowKit Go.Proofs.YtllkhdhanheieaaW.PrintWords Go.Proofs.YtllkhdhanheieaaW.PrintLast Go.Proofs.YtllkhdhanheieaaW.PrintMore
attribute [local go_sem] max2_int min2_int max_two min_two max_three min_three max_four min_four
attribute [local go_sem high] own_gtr own_leq own_geq own_cell_set Option.map_some fld23_1
set_option linter.unusedVariables false
set_option linter.unusedSimpArgs false
def val_minus.f (a0:Int) (a1:Int):Option (Int × Bool):=if ((decide (a0 < 0)) == (decide (a1 < 0))) = true then (some (wrap64 (a0 - a1),true)) else (some (wrap64 (a0 - a1),((decide ((wrap64 (a0 - a1)) < 0)) == (decide (a0 < 0)))))
set_option maxHeartbeats 8000000 in
set_option maxRecDepth 100000 in
theorem val_minus.calls (a0:Int) (a1:Int) (r1:Int) (r2:Bool) (w:World) (h:val_minus.f a0 a1 = some (r1,r2)) :
  Calls Try.prog 61 #[.int .i64 a0, .int .i64 a1] w fun e w'=>e = .returned (.tuple #[.int .i64 r1, .bool r2]) ∧ Drawn0 w w':=by
 have H:(if ((decide (a0 < 0)) == (decide (a1 < 0))) = true then (some (wrap64 (a0 - a1),true)) else (some (wrap64 (a0 - a1),((decide ((wrap64 (a0 - a1)) < 0)) == (decide (a0 < 0)))))) = some (r1,r2):=h
 clear h
 by_cases c3:((decide (a0 < 0)) == (decide (a1 < 0))) = true
 ·rw [if_pos c3] at H
  have c3b0:((decide (a0 < 0)) == (decide (a1 < 0))) = true:=c3
  (try (have c3b1:decide ((decide (a0 < 0)) = (decide (a1 < 0))) = true:=by simpa using c3))
  (try (have c3b2:((decide (a0 < 0)) == (decide (a1 < 0))) = true:=by simpa using c3))
  clear c3
  simp only [Option.some.injEq,Prod.mk.injEq] at H
  obtain ⟨rfl,rfl⟩:=H
  go_enter Try.func61,Try.ntmps61
  go_wp2
  go_ret2
  exact ⟨by first|rfl|(simp;done)|(simp [*];done),by repeat (first|exact Drawn0.refl _|apply Drawn0.step)⟩
 ·rw [if_neg c3] at H
  have c3b0:((decide (a0 < 0)) == (decide (a1 < 0))) = false:=by simpa using c3
  (try (have c3b1:decide ((decide (a0 < 0)) = (decide (a1 < 0))) = false:=by simpa using c3))
  (try (have c3b2:((decide (a0 < 0)) == (decide (a1 < 0))) = false:=by simpa using c3))
  (try (have c3b3:¬ ((decide (a0 < 0)) = (decide (a1 < 0))):=by simpa using c3))
  clear c3
  simp only [Option.some.injEq,Prod.mk.injEq] at H
  obtain ⟨rfl,rfl⟩:=H
  go_enter Try.func61,Try.ntmps61
  go_wp2
  go_ret2
  exact ⟨by first|rfl|(simp;done)|(simp [*];done),by repeat (first|exact Drawn0.refl _|apply Drawn0.step)⟩
end Go.Proofs.Ytllkhdhanheieaa.R
namespace Go.Proofs.Ytllkhdhanheieaa.R
open Go.RowKit Go.Proofs.YtllkhdhanheieaaW.PrintWords Go.Proofs.YtllkhdhanheieaaW.PrintLast Go.Proofs.YtllkhdhanheieaaW.PrintMore
attribute [local go_sem] max2_int min2_int max_two min_two max_three min_three max_four min_four
attribute [local go_sem high] own_gtr own_leq own_geq own_cell_set Option.map_some fld23_1
set_option linter.unusedVariables false
set_option linter.unusedSimpArgs false
def val_times.f (a0:Int) (a1:Int):Option (Int × Bool):=if a0 = 0 then (some (0,true)) else (if a1 = 0 then (some (0,true)) else (some (wrap64 (a0 * a1),((wrap64 (Int.tdiv (wrap64 (a0 * a1)) a1)) == a0))))
set_option maxHeartbeats 8000000 in
set_option maxRecDepth 100000 in
theorem val_times.calls (a0:Int) (a1:Int) (r1:Int) (r2:Bool) (w:World) (h:val_times.f a0 a1 = some (r1,r2)) :
  Calls Try.prog 62 #[.int .i64 a0, .int .i64 a1] w fun e w'=>e = .returned (.tuple #[.int .i64 r1, .bool r2]) ∧ Drawn0 w w':=by
 have H:(if a0 = 0 then (some (0,true)) else (if a1 = 0 then (some (0,true)) else (some (wrap64 (a0 * a1),((wrap64 (Int.tdiv (wrap64 (a0 * a1)) a1)) == a0))))) = some (r1,r2):=h
 clear h
 by_cases c3:a0 = 0
 ·rw [if_pos c3] at H
  have c3b0:(a0 == 0) = true:=beq_iff_eq.mpr c3
  have c3b1:(a0 != 0) = false:=bne_eq_false_iff_eq.mpr c3
  clear c3
  simp only [Option.some.injEq,Prod.mk.injEq] at H
  obtain ⟨rfl,rfl⟩:=H
  go_enter Try.func62,Try.ntmps62
  go_wp2
  repeat (go_quiet (fail);try go_wp2)
  go_ret2
  exact ⟨by first|rfl|(simp;done)|(simp [*];done),by repeat (first|exact Drawn0.refl _|apply Drawn0.step)⟩
 ·rw [if_neg c3] at H
  have c3b0:(a0 == 0) = false:=beq_eq_false_iff_ne.mpr c3
  have c3b1:(a0 != 0) = true:=bne_iff_ne.mpr c3
  by_cases c4:a1 = 0
  ·rw [if_pos c4] at H
   have c4b0:(a1 == 0) = true:=beq_iff_eq.mpr c4
   have c4b1:(a1 != 0) = false:=bne_eq_false_iff_eq.mpr c4
   clear c4
   simp only [Option.some.injEq,Prod.mk.injEq] at H
   obtain ⟨rfl,rfl⟩:=H
   go_enter Try.func62,Try.ntmps62
   go_wp2
   repeat (go_quiet (fail);try go_wp2)
   go_ret2
   exact ⟨by first|rfl|(simp;done)|(simp [*];done),by repeat (first|exact Drawn0.refl _|apply Drawn0.step)⟩
  ·rw [if_neg c4] at H
   have c4b0:(a1 == 0) = false:=beq_eq_false_iff_ne.mpr c4
   have c4b1:(a1 != 0) = true:=bne_iff_ne.mpr c4
   simp only [Option.some.injEq,Prod.mk.injEq] at H
   obtain ⟨rfl,rfl⟩:=H
   go_enter Try.func62,Try.ntmps62
   go_wp2
   repeat (go_quiet (fail);try go_wp2)
   go_ret2
   exact ⟨by first|rfl|(simp;done)|(simp [*];done),by repeat (first|exact Drawn0.refl _|apply Drawn0.step)⟩
end Go.Proofs.Ytllkhdhanheieaa.R
