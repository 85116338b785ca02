-- Written by drive.py and pack.py (programs of this proof's own) through the kit's printer; not trusted: Lean checks it.
import Derived.Test.YtdlkibeljkapeaaGreatDoorProg
import Derived.Below
import Derived.Deep.Draws
import Derived.Deep.AppendLies
import Derived.Maps.AppendAt
import Derived.OwnWalk
import Derived.Laws.BytesArg
import Derived.Laws.MakeOwn
import Derived.Laws.OwnMore
import Derived.Deep.OwnRows
import Derived.Tactics
import Derived.Lib.ConvBytes
import Derived.Laws.Slices
import Derived.WalkKit
import Derived.KernelRfl
import Derived.RowKit3
import Derived.Deep.LoopGhost
import Derived.Deep.QuietTactic
import Derived.BigQuiet
import Derived.WideLaws
import Derived.Deep.DeepCutAuto
import Derived.Deep.CutBlock
import Derived.Deep.RegionHeld3
import Derived.Laws.Rows
import Derived.Lib.AppendStr
import Derived.ArgAppend
import Derived.Laws.IdiomCopy
import Derived.OrdersHeld
import Derived.Laws.BitsLemmas
import Derived.RowKit
import Derived.Test.YtdlkibeljkapeaaGreatDoorCSqlBack5
namespace Go.Proofs.YtdlkibeljkapeaaGreatDoor.B
open Go.RowKit Go.Proofs.YtdlkibeljkapeaaGreatDoorW.PrintWords Go.Proofs.YtdlkibeljkapeaaGreatDoorW.PrintLast Go.Proofs.YtdlkibeljkapeaaGreatDoorW.PrintMore
attribute [local go_sem] max2_int min2_int max_two min_two max_three min_three max_four min_four
set_option linter.unusedVariables false
set_option linter.unusedSimpArgs false
def errW : Option Int → Value
  | none => .nilIface
  | some c => .iface 0 (.int .i64 c)
theorem errW_none : errW none = .nilIface := rfl
theorem errW_some (c : Int) : errW (some c) = .iface 0 (.int .i64 c) := rfl
theorem info5 : (Tryz.prog.info? 5).map (fun i => (i.zero, i.size, i.bytes)) = some (some (.int .u8 0), 1, 1) := by kernel_rfl
theorem bytesLess_swap : ∀ a b : List UInt8, Op.bytesLess b a = !(Op.bytesLess a b || a == b)
  | [], [] => by simp [Op.bytesLess]
  | [], _ :: _ => by simp [Op.bytesLess]
  | _ :: _, [] => by simp [Op.bytesLess]
  | x :: a, y :: b => by
    have ih := bytesLess_swap a b
    simp only [Op.bytesLess]
    by_cases h1 : x < y
    · have h2 : ¬ y < x := by rw [UInt8.lt_iff_toNat_lt] at *; omega
      have h3 : ¬ y = x := by rintro rfl; exact h2 h1
      simp [h1, h2, h3]
    · by_cases h2 : y < x
      · have h3 : ¬ x = y := by rintro rfl; exact h1 h2
        simp [h1, h2, h3]
      · have h3 : x = y := by
          apply UInt8.toNat_inj.1
          rw [UInt8.lt_iff_toNat_lt] at *; omega
        subst h3
        simp [h1, ih]
theorem own_gtr (t : TypeId) (a b : ByteArray) : binOp .gtr t (.string a) (.string b) = pure (.bool (Op.bytesLess b.toList a.toList)) := by
  rw [bytesLess_swap a.toList b.toList]; simp [binOp, Op.stringOp]
theorem own_leq (t : TypeId) (a b : ByteArray) : binOp .leq t (.string a) (.string b) = pure (.bool (!Op.bytesLess b.toList a.toList)) := by
  rw [bytesLess_swap a.toList b.toList]; simp [binOp, Op.stringOp]
theorem own_geq (t : TypeId) (a b : ByteArray) : binOp .geq t (.string a) (.string b) = pure (.bool (!Op.bytesLess a.toList b.toList)) := by
  simp [binOp, Op.stringOp]
theorem own_cell_set (w : World) (b o b' o' : Nat) (v : Value) : (w.setCell ⟨b, o, none⟩ v).cell? ⟨b', o', none⟩ = if b = b' ∧ o = o' then (w.cell? ⟨b', o', none⟩).map (fun _ => v) else w.cell? ⟨b', o', none⟩ := by
  by_cases h : b = b' ∧ o = o'
  · obtain ⟨rfl, rfl⟩ := h
    rw [if_pos ⟨rfl, rfl⟩]
    cases hc : w.cell? ⟨b, o, none⟩ with
    | some u => exact World.cell?_setCell_same w _ v hc
    | none =>
      have hn : (w.setCell ⟨b, o, none⟩ v).cell? ⟨b, o, none⟩ = none := by
        simp only [World.cell?, World.setCell, Array.getElem?_modify] at hc ⊢
        cases hb : w.heap[b]? with
        | none => simp
        | some ob =>
          cases ob with
          | cells c e f =>
            rw [hb] at hc
            simp at hc ⊢
            omega
          | _ => simp
      rw [hn]; rfl
  · rw [if_neg h]
    refine World.cell?_setCell_other w _ _ v ?_
    intro e
    simp only [Addr.mk.injEq] at e
    exact h ⟨e.1, e.2.1⟩
theorem Ad {w : World} {g : Nat} {o : Obj} (h : w.heap[g]? = some o) (n : Nat) : (w.drewN n).heap[g]? = some o := blk_drewN h n
theorem Ac {w : World} {g : Nat} {o : Obj} (h : w.heap[g]? = some o) : w.drew.heap[g]? = some o := blk_drew h
theorem Ae {w : World} {g : Nat} {o : Obj} (h : w.heap[g]? = some o) (o' : Obj) : (w.alloc o').heap[g]? = some o := blk_alloc h o'
theorem La {w w1 : World} {g : Nat} {o : Obj} (h : w.heap[g]? = some o) (hb : Below w.heap.size w w1) : w1.heap[g]? = some o := blk_below h hb
theorem zA {w W : World} (h : Below w.heap.size w W) (o : Obj) : Below w.heap.size w (W.alloc o) := below_alloc h o
theorem zN {B : Nat} {w W : World} (h : Below B w W) (n : Nat) : Below B w (W.drewN n) := pw_below_drewN h n
theorem z1 {base : Nat} {w W : World} (h : Below base w W) : Below base w W.drew := below_drew1 h
theorem zS {w W : World} {g j : Nat} {v : Value} (h : Below w.heap.size w W) (hg : w.heap.size ≤ g) : Below w.heap.size w (W.setCell ⟨g, j, none⟩ v) := below_set h hg
theorem H4 {w W : World} (h : Below w.heap.size w W) : w.heap.size ≤ W.heap.size := below_size h
theorem B2 {w : World} {g : Nat} {t : TypeId} {cs : Array Value} (h : w.heap[g]? = some (.cells cs t (0, 0))) (i : Nat) : w.frozen? ⟨g, i, none⟩ = false := blk_frozen h i
theorem Ba {w : World} {g : Nat} {t : TypeId} {cs : Array Value} (h : w.heap[g]? = some (.cells cs t (0, 0))) (i : Nat) : w.cell? ⟨g, i, none⟩ = cs[i]? := blk_cell h i
theorem Bd {w : World} {g : Nat} {t : TypeId} {cs : Array Value} (h : w.heap[g]? = some (.cells cs t (0, 0))) {p : Addr} (hp : g ≠ p.block) (u : Value) : (w.setCell p u).heap[g]? = some (.cells cs t (0, 0)) := blk_far h hp u
theorem Az {w : World} {g : Nat} {t : TypeId} {cs cs' : Array Value} (h : w.heap[g]? = some (.cells cs t (0, 0))) (i : Nat) (u : Value) (e : cs.setIfInBounds i u = cs') : (w.setCell ⟨g, i, none⟩ u).heap[g]? = some (.cells cs' t (0, 0)) := blk_put h i u e
theorem z_ {p : Prop} (h : p) : Aside0 p := ⟨h⟩
theorem Bj {w : World} {g : Nat} {t : TypeId} {v0 v1 v2 v3 : Value} (h : w.heap[g]? = some (.cells #[v0, v1, v2, v3] t (0, 0))) : w.cell? ⟨g, 0, none⟩ = some v0 ∧ w.cell? ⟨g, 1, none⟩ = some v1 ∧ w.cell? ⟨g, 2, none⟩ = some v2 ∧ w.cell? ⟨g, 3, none⟩ = some v3 ∧ w.frozen? ⟨g, 0, none⟩ = false ∧ w.frozen? ⟨g, 1, none⟩ = false ∧ w.frozen? ⟨g, 2, none⟩ = false ∧ w.frozen? ⟨g, 3, none⟩ = false := ⟨(blk_cell h 0).trans rfl, (blk_cell h 1).trans rfl, (blk_cell h 2).trans rfl, (blk_cell h 3).trans rfl, blk_frozen h 0, blk_frozen h 1, blk_frozen h 2, blk_frozen h 3⟩
theorem M4 {w : World} {g : Nat} {t : TypeId} {v0 v1 v2 v3 v4 v5 v6 v7 : Value} (h : w.heap[g]? = some (.cells #[v0, v1, v2, v3, v4, v5, v6, v7] t (0, 0))) : w.cell? ⟨g, 0, none⟩ = some v0 ∧ w.cell? ⟨g, 1, none⟩ = some v1 ∧ w.cell? ⟨g, 2, none⟩ = some v2 ∧ w.cell? ⟨g, 3, none⟩ = some v3 ∧ w.cell? ⟨g, 4, none⟩ = some v4 ∧ w.cell? ⟨g, 5, none⟩ = some v5 ∧ w.cell? ⟨g, 6, none⟩ = some v6 ∧ w.cell? ⟨g, 7, none⟩ = some v7 ∧ w.frozen? ⟨g, 0, none⟩ = false ∧ w.frozen? ⟨g, 1, none⟩ = false ∧ w.frozen? ⟨g, 2, none⟩ = false ∧ w.frozen? ⟨g, 3, none⟩ = false ∧ w.frozen? ⟨g, 4, none⟩ = false ∧ w.frozen? ⟨g, 5, none⟩ = false ∧ w.frozen? ⟨g, 6, none⟩ = false ∧ w.frozen? ⟨g, 7, none⟩ = false := ⟨(blk_cell h 0).trans rfl, (blk_cell h 1).trans rfl, (blk_cell h 2).trans rfl, (blk_cell h 3).trans rfl, (blk_cell h 4).trans rfl, (blk_cell h 5).trans rfl, (blk_cell h 6).trans rfl, (blk_cell h 7).trans rfl, blk_frozen h 0, blk_frozen h 1, blk_frozen h 2, blk_frozen h 3, blk_frozen h 4, blk_frozen h 5, blk_frozen h 6, blk_frozen h 7⟩
theorem zk {w w1 w2 : World} {g : Nat} {o : Obj} (h : w.heap[g]? = some o) (hb : Below w1.heap.size w1 w2) (e : w.heap[g]? = some o → w1.heap[g]? = some o := by first | exact id | (intro h_; (with_reducible repeat (first | refine blk_drewN ?_ _ | refine blk_drew ?_ | refine blk_alloc ?_ _)); exact h_)) : w2.heap[g]? = some o := blk_below (e h) hb
theorem Fg {p:Prop} (h:p:=by repeat first|(with_reducible first|exact HB.out|apply zA|apply zN|apply z1|refine zS ?_ GE101.out)|exact HB.out):p:=h
theorem Fe {p:Prop} (h:p:=by repeat first|(with_reducible first|exact HB.out|apply zA|apply zN|apply z1)|exact HB.out):p:=h
theorem Fv {p:Prop} (h:p:=by (with_reducible repeat first|apply Ad|apply Ac|apply Ae);exact BK101.out):p:=h
theorem Gk {p:Prop} (h:p:=by repeat first|(with_reducible first|exact HB.out|apply zA|apply zN|apply z1|refine zS ?_ GE101.out|refine zS ?_ GE103.out)|exact HB.out):p:=h
theorem En {p:Prop} (h:p:=by (try simp only [List.map_toArray,List.map_cons,List.map_nil]);first|done|rfl|(simp only [List.length_drop,List.length_take];rfl)):p:=h
theorem zp5 {p:Prop} (h:p:=by (with_reducible repeat first|apply Ad|apply Ac|apply Ae);refine Az (cs:=#[.int .i64 a0_0, .int .i64 x102001_3, .int .i64 x102002_3, .string (⟨#[]⟩:ByteArray)]) ?_ 3 _ rfl;(with_reducible repeat first|apply Ad|apply Ac|apply Ae);refine Az (cs:=#[.int .i64 a0_0, .int .i64 x102001_3, .int .i64 0, .string (⟨#[]⟩:ByteArray)]) ?_ 2 _ rfl;(with_reducible repeat first|apply Ad|apply Ac|apply Ae);refine Az (cs:=#[.int .i64 a0_0, .int .i64 0, .int .i64 0, .string (⟨#[]⟩:ByteArray)]) ?_ 1 _ rfl;(with_reducible repeat first|apply Ad|apply Ac|apply Ae);refine Az (cs:=#[.int .i64 0, .int .i64 0, .int .i64 0, .string (⟨#[]⟩:ByteArray)]) ?_ 0 _ rfl;(with_reducible repeat first|apply Ad|apply Ac|apply Ae);exact BK102.out):p:=h
theorem K9 {p:Prop} (h:p:=by first|(simp only [putAll,Act.put,List.setIfInBounds_toArray,List.set_cons_zero,List.set_cons_succ];done)|(simp only [putAll,Act.put,List.setIfInBounds_toArray,List.set_cons_zero,List.set_cons_succ];rfl)):p:=h
theorem Di {p:Prop} (h:p:=by first|(with_reducible assumption)|assumption):p:=h
theorem Da {p:Prop} (h:p:=by first|(go_simp;done)|(go_simp;rfl)):p:=h
theorem zp9 {p:Prop} (h:p:=by (with_reducible repeat first|apply Ad|apply Ac|apply Ae);refine Az (cs:=#[.int .i64 4, .int .i64 a0_1, .string a0_2, .int .i64 a1_0, .int .i64 a1_1, .int .i64 a1_2, .string a0_6, .int .i64 a0_7]) ?_ 6 _ rfl;(with_reducible repeat first|apply Ad|apply Ac|apply Ae);refine Az (cs:=#[.int .i64 4, .int .i64 a0_1, .string a0_2, .int .i64 a1_0, .int .i64 a1_1, .int .i64 a0_5, .string a0_6, .int .i64 a0_7]) ?_ 5 _ rfl;(with_reducible repeat first|apply Ad|apply Ac|apply Ae);refine Az (cs:=#[.int .i64 4, .int .i64 a0_1, .string a0_2, .int .i64 a1_0, .int .i64 a0_4, .int .i64 a0_5, .string a0_6, .int .i64 a0_7]) ?_ 4 _ rfl;(with_reducible repeat first|apply Ad|apply Ac|apply Ae);refine Az (cs:=#[.int .i64 4, .int .i64 a0_1, .string a0_2, .int .i64 a0_3, .int .i64 a0_4, .int .i64 a0_5, .string a0_6, .int .i64 a0_7]) ?_ 3 _ rfl;(with_reducible repeat first|apply Ad|apply Ac|apply Ae);refine Az (cs:=#[.int .i64 a0_0, .int .i64 a0_1, .string a0_2, .int .i64 a0_3, .int .i64 a0_4, .int .i64 a0_5, .string a0_6, .int .i64 a0_7]) ?_ 0 _ rfl;(with_reducible repeat first|apply Ad|apply Ac|apply Ae);exact BK101.out):p:=h
theorem Jm {p:Prop} (h:p:=by (with_reducible repeat first|apply Ad|apply Ac|apply Ae);exact BK103.out):p:=h
theorem Rl {p:Prop} (h:p:=by repeat first|(with_reducible first|exact HB.out|apply zA|apply zN|apply z1|refine zS ?_ GE101.out|refine zS ?_ GE102.out)|exact HB.out):p:=h
theorem Alk {p:Prop} (h:p:=by (with_reducible repeat first|apply Ad|apply Ac|apply Ae);refine Bd ?_ NB103_101.out _;(with_reducible repeat first|apply Ad|apply Ac|apply Ae);refine Bd ?_ NB103_101.out _;(with_reducible repeat first|apply Ad|apply Ac|apply Ae);refine Bd ?_ NB103_101.out _;(with_reducible repeat first|apply Ad|apply Ac|apply Ae);refine Bd ?_ NB103_101.out _;(with_reducible repeat first|apply Ad|apply Ac|apply Ae);refine Bd ?_ NB103_101.out _;(with_reducible repeat first|apply Ad|apply Ac|apply Ae);exact BK103.out):p:=h
theorem Aly {p:Prop} (h:p:=by (with_reducible repeat first|apply Ad|apply Ac|apply Ae);refine Bd ?_ NB102_101.out _;(with_reducible repeat first|apply Ad|apply Ac|apply Ae);refine Bd ?_ NB102_101.out _;(with_reducible repeat first|apply Ad|apply Ac|apply Ae);refine Bd ?_ NB102_101.out _;(with_reducible repeat first|apply Ad|apply Ac|apply Ae);refine Bd ?_ NB102_101.out _;(with_reducible repeat first|apply Ad|apply Ac|apply Ae);refine Bd ?_ NB102_101.out _;(with_reducible repeat first|apply Ad|apply Ac|apply Ae);exact BK102.out):p:=h
theorem N9 {p:Prop} (h:p:=by (with_reducible repeat (first|apply Kd.R_alloc|apply Kd.R_drewN|apply Kd.R_drew));exact HO115.out):p:=h
theorem Vf {p:Prop} (h:p:=by (with_reducible repeat first|apply Ad|apply Ac|apply Ae);exact BK102.out):p:=h
theorem Hv {p:Prop} (h:p:=by first|rfl|(simp;done)|(simp [*];done)):p:=h
theorem Alj {p:Prop} (h:p:=by refine Az (cs:=#[.int .i64 4, .int .i64 0, .int .i64 0, .string (⟨#[]⟩:ByteArray)]) ?_ 3 _ rfl;refine Az (cs:=#[.int .i64 4, .int .i64 0, .int .i64 0, .string (⟨#[]⟩:ByteArray)]) ?_ 2 _ rfl;refine Az (cs:=#[.int .i64 4, .int .i64 0, .int .i64 0, .string (⟨#[]⟩:ByteArray)]) ?_ 1 _ rfl;refine Az (cs:=#[.int .i64 0, .int .i64 0, .int .i64 0, .string (⟨#[]⟩:ByteArray)]) ?_ 0 _ rfl;refine Bd ?_ (by simp) _;exact H0.out):p:=h
theorem Adq {p:Prop} (h:p:=by repeat first|(with_reducible first|exact HB.out|apply zA|apply zN|apply z1|refine zS ?_ GE102.out|refine zS ?_ GE103.out)|exact HB.out):p:=h
theorem Adp {p:Prop} (h:p:=by repeat first|(with_reducible first|exact HB.out|apply zA|apply zN|apply z1|refine zS ?_ GE102.out)|exact HB.out):p:=h
theorem Alq {p:Prop} (h:p:=by repeat first|(with_reducible first|exact HB.out|apply zA|apply zN|apply z1|refine zS ?_ GE101.out|refine zS ?_ GE102.out|refine zS ?_ GE103.out)|exact HB.out):p:=h
theorem K6 {p:Prop} (h:p:=by rw [hg];exact Nat.ne_of_lt (blk_lt (g:=gb101) (o:=.cells #[.int .i64 a0_0, .int .i64 a0_1, .int .i64 a0_2, .string a0_3] 28 (0,0)) Fv)):p:=h
theorem K5 {p:Prop} (h:p:=by rw [hg];exact Nat.ne_of_gt (blk_lt (g:=gb101) (o:=.cells #[.int .i64 a0_0, .int .i64 a0_1, .int .i64 a0_2, .string a0_3] 28 (0,0)) Fv)):p:=h
theorem Dh {p:Prop} (h:p:=by rw [hg];exact (H4 Fe)):p:=h
theorem Do {p:Prop} (h:p:=by rw [hg];exact (H4 Fg)):p:=h
theorem Y2 {p:Prop} (h:p:=by rw [hg];exact Nat.ne_of_lt (blk_lt (g:=gb101) (o:=.cells #[.int .i64 a0_0, .int .i64 a0_1, .string a0_2, .int .i64 a0_3, .int .i64 a0_4, .int .i64 a0_5, .string a0_6, .int .i64 a0_7] 85 (0,0)) Fv)):p:=h
theorem Yy {p:Prop} (h:p:=by rw [hg];exact Nat.ne_of_gt (blk_lt (g:=gb101) (o:=.cells #[.int .i64 a0_0, .int .i64 a0_1, .string a0_2, .int .i64 a0_3, .int .i64 a0_4, .int .i64 a0_5, .string a0_6, .int .i64 a0_7] 85 (0,0)) Fv)):p:=h
theorem Vd {p:Prop} (h:p:=by rw [hg];exact Nat.ne_of_lt (blk_lt (g:=gb101) (o:=.cells #[.int .i64 0, .int .i64 0, .int .i64 0, .string (⟨#[]⟩:ByteArray)] 28 (0,0)) Fv)):p:=h
theorem Vi {p:Prop} (h:p:=by rw [hg];exact Nat.ne_of_gt (blk_lt (g:=gb101) (o:=.cells #[.int .i64 0, .int .i64 0, .int .i64 0, .string (⟨#[]⟩:ByteArray)] 28 (0,0)) Fv)):p:=h
theorem Al5 {p:Prop} (h:p:=by rw [hg];exact Nat.ne_of_lt (blk_lt (g:=gb102) (o:=.cells #[.int .i64 a1_0, .int .i64 a1_1, .int .i64 a1_2, .string a1_3] 28 (0,0)) Vf)):p:=h
theorem Aln {p:Prop} (h:p:=by rw [hg];exact Nat.ne_of_gt (blk_lt (g:=gb102) (o:=.cells #[.int .i64 a1_0, .int .i64 a1_1, .int .i64 a1_2, .string a1_3] 28 (0,0)) Vf)):p:=h
end Go.Proofs.YtdlkibeljkapeaaGreatDoor.B
namespace Go.Proofs.YtdlkibeljkapeaaGreatDoor.B
open Go.RowKit Go.Proofs.YtdlkibeljkapeaaGreatDoorW.PrintWords Go.Proofs.YtdlkibeljkapeaaGreatDoorW.PrintLast Go.Proofs.YtdlkibeljkapeaaGreatDoorW.PrintMore
attribute [local go_sem] max2_int min2_int max_two min_two max_three min_three max_four min_four
attribute [local go_sem high] own_gtr own_leq own_geq own_cell_set Option.map_some
set_option linter.unusedVariables false
set_option linter.unusedSimpArgs false
def federationlaw1_within.f (a0:Int) (a1:Int):Option (Int):=if a1 = 0 then (none) else (if (Int.tmod a0 a1) < 0 then (some (wrap64 ((Int.tmod a0 a1) + a1))) else (some (Int.tmod a0 a1)))
set_option maxHeartbeats 8000000 in
set_option maxRecDepth 100000 in
theorem federationlaw1_within.calls (a0:Int) (a1:Int) (r:Int) (w:World) (h:federationlaw1_within.f a0 a1 = some r) :
  Calls Tryz.prog 48 #[.int .i64 a0, .int .i64 a1] w fun e w'=>e = .returned (.int .i64 r) ∧ Drawn0 w w':=by
 have H:(if a1 = 0 then (none) else (if (Int.tmod a0 a1) < 0 then (some (wrap64 ((Int.tmod a0 a1) + a1))) else (some (Int.tmod a0 a1)))) = some r:=h
 clear h
 by_cases c3:a1 = 0
 ·rw [if_pos c3] at H
  exact absurd H (by simp)
 ·rw [if_neg c3] at H
  have c3b0:(a1 == 0) = false:=beq_eq_false_iff_ne.mpr c3
  have c3b1:(a1 != 0) = true:=bne_iff_ne.mpr c3
  by_cases c4:(Int.tmod a0 a1) < 0
  ·rw [if_pos c4] at H
   have c4b0:decide ((Int.tmod a0 a1) < 0) = true:=decide_eq_true c4
   clear c4
   obtain rfl:=Option.some.inj H
   go_enter Tryz.func48,Tryz.ntmps48
   go_wp2
   go_ret
   exact ⟨by first|rfl|(simp;done)|(simp [*];done),by repeat (first|exact Drawn0.refl _|apply Drawn0.step)⟩
  ·rw [if_neg c4] at H
   have c4b0:decide ((Int.tmod a0 a1) < 0) = false:=decide_eq_false c4
   clear c4
   obtain rfl:=Option.some.inj H
   go_enter Tryz.func48,Tryz.ntmps48
   go_wp2
   go_ret
   exact ⟨by first|rfl|(simp;done)|(simp [*];done),by repeat (first|exact Drawn0.refl _|apply Drawn0.step)⟩
end Go.Proofs.YtdlkibeljkapeaaGreatDoor.B
namespace Go.Proofs.YtdlkibeljkapeaaGreatDoor.B
open Go.RowKit Go.Proofs.YtdlkibeljkapeaaGreatDoorW.PrintWords Go.Proofs.YtdlkibeljkapeaaGreatDoorW.PrintLast Go.Proofs.YtdlkibeljkapeaaGreatDoorW.PrintMore
attribute [local go_sem] max2_int min2_int max_two min_two max_three min_three max_four min_four
attribute [local go_sem high] own_gtr own_leq own_geq own_cell_set Option.map_some
set_option linter.unusedVariables false
set_option linter.unusedSimpArgs false
mutual
def federationref1_Norm.j0:Nat → Bool → Int → Int → Int → ByteArray → Option (Int × Int × Int × ByteArray)
 | 0,_,_,_,_,_=>none
 | k + 1,x15,x102000,x102001,x102002,x102003=>if x15 = true then (federationref1_Norm.j1 k x102000 x102001 0 x102003) else (federationref1_Norm.j1 k x102000 x102001 x102002 x102003)
def federationref1_Norm.j1:Nat → Int → Int → Int → ByteArray → Option (Int × Int × Int × ByteArray)
 | 0,_,_,_,_=>none
 | k + 1,x102000,x102001,x102002,x102003=>federationref1_Norm.l0 k x102000 x102001 x102002 x102003
def federationref1_Norm.l0:Nat → Int → Int → Int → ByteArray → Option (Int × Int × Int × ByteArray)
 | 0,_,_,_,_=>none
 | k + 1,x102000,x102001,x102002,x102003=>if x102000 = 3 then (if x102002 > 0 then (if (Int.tmod x102001 10) = 0 then (federationref1_Norm.l0 k x102000 (wrap64 (Int.tdiv x102001 10)) (wrap64 (x102002 - 1)) x102003) else (some (x102000,x102001,x102002,x102003))) else (some (x102000,x102001,x102002,x102003))) else (some (x102000,x102001,x102002,x102003))
end
def federationref1_Norm.f (k:Nat) (a0_0:Int) (a0_1:Int) (a0_2:Int) (a0_3:ByteArray):Option (Int × Int × Int × ByteArray):=if a0_0 = 3 then (if a0_2 > 0 then (federationref1_Norm.j0 k (a0_1 == 0) a0_0 a0_1 a0_2 a0_3) else (federationref1_Norm.j0 k false a0_0 a0_1 a0_2 a0_3)) else (federationref1_Norm.j0 k false a0_0 a0_1 a0_2 a0_3)
set_option maxHeartbeats 8000000 in
set_option maxRecDepth 100000 in
theorem federationref1_Norm.calls (k:Nat) (a0_0:Int) (a0_1:Int) (a0_2:Int) (a0_3:ByteArray) (r1:Int) (r2:Int) (r3:Int) (r4:ByteArray) (w:World) (h:federationref1_Norm.f k a0_0 a0_1 a0_2 a0_3 = some (r1,r2,r3,r4)) :
  Calls Tryz.prog 49 #[.agg #[.int .i64 a0_0, .int .i64 a0_1, .int .i64 a0_2, .string a0_3]] w fun e w'=>e = .returned (.agg #[.int .i64 r1, .int .i64 r2, .int .i64 r3, .string r4]) ∧ Below w.heap.size w w':=by
 have hu28:=Tryz.underlying28
 have HB:=z_ (Below.refl w.heap.size w)
 have H:(if a0_0 = 3 then (if a0_2 > 0 then (federationref1_Norm.j0 k (a0_1 == 0) a0_0 a0_1 a0_2 a0_3) else (federationref1_Norm.j0 k false a0_0 a0_1 a0_2 a0_3)) else (federationref1_Norm.j0 k false a0_0 a0_1 a0_2 a0_3)) = some (r1,r2,r3,r4):=h
 clear h
 have HC2:=z_ H
 clear H
 go_enter Tryz.func49,Tryz.ntmps49
 go_upto_region 1 with (first|((with_reducible refine gate_dst (N:=1) rfl ?_);refine box_event (by rfl) (N:=1) (by rfl) (cs:=#[.int .i64 a0_0, .int .i64 a0_1, .int .i64 a0_2, .string a0_3]) (t:=28) Da ?_;intro gb101 hg w3 hbox hb;have BK101:=z_ (hbox);have GW101:=z_ ((Dh:w.heap.size ≤ gb101));have GE101:=z_ ((Dh:w.heap.size ≤ gb101));replace HB:=z_ (below_step Fe hb);clear hb hbox hg)|((with_reducible refine gate_dst (N:=2) rfl ?_);refine box_event (by rfl) (N:=2) (by rfl) (cs:=#[.int .i64 0, .int .i64 0, .int .i64 0, .string (⟨#[]⟩:ByteArray)]) (t:=28) Da ?_;intro gb102 hg w4 hbox hb;have BK102:=z_ (hbox);have GW102:=z_ ((Do:w.heap.size ≤ gb102));have GE102:=z_ ((Do:w.heap.size ≤ gb102));replace HB:=z_ (below_step Fg hb);have NB101_102:=z_ ((K6:gb101 ≠ gb102));have NB102_101:=z_ ((K5:gb102 ≠ gb101));replace BK101:=z_ (zk BK101.out hb);clear hb hbox hg))
 (try simp only [Act.put,List.setIfInBounds_toArray,List.set_cons_zero,List.set_cons_succ])
 go_cut [15] (fun v15 wc=>∃ (kq:Nat) (x15_1:Bool),v15 = .bool x15_1 ∧ Aside0 (federationref1_Norm.j0 kq x15_1 a0_0 a0_1 a0_2 a0_3 = some (r1,r2,r3,r4)) ∧ Aside0 (kq ≤ k) ∧ Aside0 (wc.heap[gb101]? = some (.cells #[.int .i64 a0_0, .int .i64 a0_1, .int .i64 a0_2, .string a0_3] 28 (0,0))) ∧ Aside0 (wc.heap[gb102]? = some (.cells #[.int .i64 0, .int .i64 0, .int .i64 0, .string (⟨#[]⟩:ByteArray)] 28 (0,0))) ∧ Aside0 (Below w.heap.size w wc))
 case first =>
  have H:=HC2.out
  clear HC2
  by_cases c5:a0_0 = 3
  ·rw [if_pos c5] at H
   have c5b0:(a0_0 == 3) = true:=beq_iff_eq.mpr c5
   have c5b1:(a0_0 != 3) = false:=bne_eq_false_iff_eq.mpr c5
   clear c5
   (first|rw [c5b0]|(simp only [i64_w,i32_w];rw [c5b0])|skip)
   by_cases c6:a0_2 > 0
   ·rw [if_pos c6] at H
    have c6b0:decide (0 < a0_2) = true:=decide_eq_true c6
    clear c6
    have H':=z_ H
    clear H
    have hnb7:=NB101_102.out
    have hnc7:=NB102_101.out
    obtain ⟨_,_,_,_,_,_,_,_⟩:=Bj BK101.out
    go_wp2
    go_meet
    case rel=>exact ⟨_,((a0_1 == 0)),Hv,H',⟨by first|omega|exact Nat.le_refl _⟩,⟨by (with_reducible repeat first|apply Ad|apply Ac|apply Ae);exact BK101.out⟩,⟨by (with_reducible repeat first|apply Ad|apply Ac|apply Ae);exact BK102.out⟩,⟨by repeat first|(with_reducible first|exact HB.out|apply zA|apply zN|apply z1|refine zS ?_ GE101.out|refine zS ?_ GE102.out)|exact HB.out⟩⟩
   ·rw [if_neg c6] at H
    have c6b0:decide (0 < a0_2) = false:=decide_eq_false c6
    clear c6
    have H':=z_ H
    clear H
    have hnb9:=NB101_102.out
    have hnc9:=NB102_101.out
    obtain ⟨_,_,_,_,_,_,_,_⟩:=Bj BK101.out
    go_wp2
    go_meet
    case rel=>exact ⟨_,(false),Hv,H',⟨by first|omega|exact Nat.le_refl _⟩,⟨by (with_reducible repeat first|apply Ad|apply Ac|apply Ae);exact BK101.out⟩,⟨by (with_reducible repeat first|apply Ad|apply Ac|apply Ae);exact BK102.out⟩,⟨by repeat first|(with_reducible first|exact HB.out|apply zA|apply zN|apply z1|refine zS ?_ GE101.out|refine zS ?_ GE102.out)|exact HB.out⟩⟩
  ·rw [if_neg c5] at H
   have c5b0:(a0_0 == 3) = false:=beq_eq_false_iff_ne.mpr c5
   have c5b1:(a0_0 != 3) = true:=bne_iff_ne.mpr c5
   (first|rw [c5b0]|(simp only [i64_w,i32_w];rw [c5b0])|skip)
   have H':=z_ H
   clear H
   have hnb11:=NB101_102.out
   have hnc11:=NB102_101.out
   obtain ⟨_,_,_,_,_,_,_,_⟩:=Bj BK101.out
   go_wp2
   go_meet
   case rel=>exact ⟨_,(false),Hv,H',⟨by first|omega|exact Nat.le_refl _⟩,⟨by (with_reducible repeat first|apply Ad|apply Ac|apply Ae);exact BK101.out⟩,⟨by (with_reducible repeat first|apply Ad|apply Ac|apply Ae);exact BK102.out⟩,⟨by repeat first|(with_reducible first|exact HB.out|apply zA|apply zN|apply z1|refine zS ?_ GE101.out|refine zS ?_ GE102.out)|exact HB.out⟩⟩
 case rest =>
  clear HC2
  try clear c1
  try clear p2
  try clear c4
  try clear c5
  try clear c5b0
  try clear c5b1
  try clear c6
  try clear c6b0
  try clear c7
  try clear c9
  try clear c11
  try clear hcz10_0
  try clear hcz10_1
  try clear hcz10_2
  try clear hcz10_3
  try clear hcz12_0
  try clear hcz12_1
  try clear hcz12_2
  try clear hcz12_3
  try clear hcz8_0
  try clear hcz8_1
  try clear hcz8_2
  try clear hcz8_3
  try clear hfz10_0
  try clear hfz10_1
  try clear hfz10_2
  try clear hfz10_3
  try clear hfz12_0
  try clear hfz12_1
  try clear hfz12_2
  try clear hfz12_3
  try clear hfz8_0
  try clear hfz8_1
  try clear hfz8_2
  try clear hfz8_3
  obtain ⟨kq,x15_1,rfl,HA,HJ1,BK101,BK102,HB⟩:=hcut
  cases kq with
  | zero=>exact absurd HA.out (by simp [federationref1_Norm.j0])
  | succ kj1 =>
   have H:=HA.out
   clear HA
   simp only [federationref1_Norm.j0] at H
   have HC13:=z_ H
   clear H
   go_upto_if 15 with (fail)
   go_cut [] (fun wc=>∃ (kq:Nat) (x102002_12:Int),Aside0 (federationref1_Norm.j1 kq a0_0 a0_1 x102002_12 a0_3 = some (r1,r2,r3,r4)) ∧ Aside0 (kq ≤ kj1) ∧ Aside0 (wc.heap[gb101]? = some (.cells #[.int .i64 a0_0, .int .i64 a0_1, .int .i64 x102002_12, .string a0_3] 28 (0,0))) ∧ Aside0 (wc.heap[gb102]? = some (.cells #[.int .i64 0, .int .i64 0, .int .i64 0, .string (⟨#[]⟩:ByteArray)] 28 (0,0))) ∧ Aside0 (Below w.heap.size w wc))
   case first =>
    have H:=HC13.out
    clear HC13
    by_cases c14:x15_1 = true
    ·subst c14
     have H1:(federationref1_Norm.j1 kj1 a0_0 a0_1 0 a0_3) = some (r1,r2,r3,r4):=by rw [if_pos rfl] at H;exact H
     clear H
     have H:=H1
     clear H1
     have H':=z_ H
     clear H
     have hnb15:=NB101_102.out
     have hnc15:=NB102_101.out
     obtain ⟨_,_,_,_,_,_,_,_⟩:=Bj BK101.out
     go_wp2
     go_meet
     case rel=>exact ⟨_,(0),H',⟨by have:=HJ1.out;first|omega|exact Nat.le_refl _⟩,⟨by (with_reducible repeat first|apply Ad|apply Ac|apply Ae);refine Az (cs:=#[.int .i64 a0_0, .int .i64 a0_1, .int .i64 a0_2, .string a0_3]) ?_ 2 _ rfl;(with_reducible repeat first|apply Ad|apply Ac|apply Ae);exact BK101.out⟩,⟨by (with_reducible repeat first|apply Ad|apply Ac|apply Ae);refine Bd ?_ NB102_101.out _;(with_reducible repeat first|apply Ad|apply Ac|apply Ae);exact BK102.out⟩,⟨by repeat first|(with_reducible first|exact HB.out|apply zA|apply zN|apply z1|refine zS ?_ GE101.out|refine zS ?_ GE102.out)|exact HB.out⟩⟩
    ·replace c14:=Bool.eq_false_iff.mpr c14
     subst c14
     have H1:(federationref1_Norm.j1 kj1 a0_0 a0_1 a0_2 a0_3) = some (r1,r2,r3,r4):=by rw [if_neg (show ¬ (false = true) by decide)] at H;exact H
     clear H
     have H:=H1
     clear H1
     have H':=z_ H
     clear H
     go_wp2
     go_meet
     case rel=>exact ⟨_,(a0_2),H',⟨by have:=HJ1.out;first|omega|exact Nat.le_refl _⟩,⟨by (with_reducible repeat first|apply Ad|apply Ac|apply Ae);exact BK101.out⟩,⟨by (with_reducible repeat first|apply Ad|apply Ac|apply Ae);exact BK102.out⟩,⟨by repeat first|(with_reducible first|exact HB.out|apply zA|apply zN|apply z1|refine zS ?_ GE101.out|refine zS ?_ GE102.out)|exact HB.out⟩⟩
   case rest =>
    clear HC13
    try clear c1
    try clear p2
    try clear c4
    try clear c5
    try clear c5b0
    try clear c5b1
    try clear c6
    try clear c6b0
    try clear c7
    try clear c9
    try clear c11
    try clear c14
    try clear c15
    try clear hcz10_0
    try clear hcz10_1
    try clear hcz10_2
    try clear hcz10_3
    try clear hcz12_0
    try clear hcz12_1
    try clear hcz12_2
    try clear hcz12_3
    try clear hcz16_0
    try clear hcz16_1
    try clear hcz16_2
    try clear hcz16_3
    try clear hcz8_0
    try clear hcz8_1
    try clear hcz8_2
    try clear hcz8_3
    try clear hfz10_0
    try clear hfz10_1
    try clear hfz10_2
    try clear hfz10_3
    try clear hfz12_0
    try clear hfz12_1
    try clear hfz12_2
    try clear hfz12_3
    try clear hfz16_0
    try clear hfz16_1
    try clear hfz16_2
    try clear hfz16_3
    try clear hfz8_0
    try clear hfz8_1
    try clear hfz8_2
    try clear hfz8_3
    try clear p2
    obtain ⟨kq,x102002_12,HA,HJ12,BK101,BK102,HB⟩:=hcut
    cases kq with
    | zero=>exact absurd HA.out (by simp [federationref1_Norm.j1])
    | succ kj12 =>
     have H:=HA.out
     clear HA
     simp only [federationref1_Norm.j1] at H
     have H':=z_ H
     clear H
     go_wp2
     go_loopg [] kj12 (fun kq w'=>∃ (x102001_3:Int) (x102002_3:Int),Aside0 (federationref1_Norm.l0 kq a0_0 x102001_3 x102002_3 a0_3 = some (r1,r2,r3,r4)) ∧ Aside0 (kq ≤ kj12) ∧ Aside0 (w'.heap[gb101]? = some (.cells #[.int .i64 a0_0, .int .i64 x102001_3, .int .i64 x102002_3, .string a0_3] 28 (0,0))) ∧ Aside0 (w'.heap[gb102]? = some (.cells #[.int .i64 0, .int .i64 0, .int .i64 0, .string (⟨#[]⟩:ByteArray)] 28 (0,0))) ∧ Aside0 (Below w.heap.size w w'))
     case atStart=>exact ⟨(a0_1),(x102002_12),H',⟨Nat.le_refl _⟩,⟨by (with_reducible repeat first|apply Ad|apply Ac|apply Ae);exact BK101.out⟩,⟨by (with_reducible repeat first|apply Ad|apply Ac|apply Ae);exact BK102.out⟩,⟨by repeat first|(with_reducible first|exact HB.out|apply zA|apply zN|apply z1|refine zS ?_ GE101.out|refine zS ?_ GE102.out)|exact HB.out⟩⟩
     case round =>
      clear H'
      try clear c1
      try clear p2
      try clear c4
      try clear c5
      try clear c5b0
      try clear c5b1
      try clear c6
      try clear c6b0
      try clear c7
      try clear c9
      try clear c11
      try clear c14
      try clear c15
      try clear hcz10_0
      try clear hcz10_1
      try clear hcz10_2
      try clear hcz10_3
      try clear hcz12_0
      try clear hcz12_1
      try clear hcz12_2
      try clear hcz12_3
      try clear hcz16_0
      try clear hcz16_1
      try clear hcz16_2
      try clear hcz16_3
      try clear hcz8_0
      try clear hcz8_1
      try clear hcz8_2
      try clear hcz8_3
      try clear hfz10_0
      try clear hfz10_1
      try clear hfz10_2
      try clear hfz10_3
      try clear hfz12_0
      try clear hfz12_1
      try clear hfz12_2
      try clear hfz12_3
      try clear hfz16_0
      try clear hfz16_1
      try clear hfz16_2
      try clear hfz16_3
      try clear hfz8_0
      try clear hfz8_1
      try clear hfz8_2
      try clear hfz8_3
      try clear p2
      obtain ⟨x102001_3,x102002_3,HA,HK3,BK101,BK102,HB⟩:=hrel
      cases gk with
      | zero=>exact absurd HA.out (by simp [federationref1_Norm.l0])
      | succ k3 =>
       have H:=HA.out
       clear HA
       simp only [federationref1_Norm.l0] at H
       by_cases c17:a0_0 = 3
       ·rw [if_pos c17] at H
        have c17b0:(a0_0 == 3) = true:=beq_iff_eq.mpr c17
        have c17b1:(a0_0 != 3) = false:=bne_eq_false_iff_eq.mpr c17
        clear c17
        by_cases c18:x102002_3 > 0
        ·rw [if_pos c18] at H
         have c18b0:decide (0 < x102002_3) = true:=decide_eq_true c18
         clear c18
         by_cases c19:(Int.tmod x102001_3 10) = 0
         ·rw [if_pos c19] at H
          have c19b0:((Int.tmod x102001_3 10) == 0) = true:=beq_iff_eq.mpr c19
          have c19b1:((Int.tmod x102001_3 10) != 0) = false:=bne_eq_false_iff_eq.mpr c19
          clear c19
          have H':=z_ H
          clear H
          have hnb20:=NB101_102.out
          have hnc20:=NB102_101.out
          obtain ⟨_,_,_,_,_,_,_,_⟩:=Bj BK101.out
          go_wp2
          go_roundg k3
          case measure=>have:=HJ1.out;have:=HJ12.out;have:=HK3.out;omega
          case rel=>exact ⟨(wrap64 (Int.tdiv x102001_3 10)),(wrap64 (x102002_3 - 1)),H',⟨by have:=HJ1.out;have:=HJ12.out;have:=HK3.out;omega⟩,⟨by (with_reducible repeat first|apply Ad|apply Ac|apply Ae);refine Az (cs:=#[.int .i64 a0_0, .int .i64 (wrap64 (Int.tdiv x102001_3 10)), .int .i64 x102002_3, .string a0_3]) ?_ 2 _ rfl;(with_reducible repeat first|apply Ad|apply Ac|apply Ae);refine Az (cs:=#[.int .i64 a0_0, .int .i64 x102001_3, .int .i64 x102002_3, .string a0_3]) ?_ 1 _ rfl;(with_reducible repeat first|apply Ad|apply Ac|apply Ae);exact BK101.out⟩,⟨by (with_reducible repeat first|apply Ad|apply Ac|apply Ae);refine Bd ?_ NB102_101.out _;(with_reducible repeat first|apply Ad|apply Ac|apply Ae);refine Bd ?_ NB102_101.out _;(with_reducible repeat first|apply Ad|apply Ac|apply Ae);exact BK102.out⟩,⟨by repeat first|(with_reducible first|exact HB.out|apply zA|apply zN|apply z1|refine zS ?_ GE101.out|refine zS ?_ GE102.out)|exact HB.out⟩⟩
         ·rw [if_neg c19] at H
          have c19b0:((Int.tmod x102001_3 10) == 0) = false:=beq_eq_false_iff_ne.mpr c19
          have c19b1:((Int.tmod x102001_3 10) != 0) = true:=bne_iff_ne.mpr c19
          simp only [Option.some.injEq,Prod.mk.injEq] at H
          obtain ⟨rfl,rfl,rfl,rfl⟩:=H
          have hnb22:=NB101_102.out
          have hnc22:=NB102_101.out
          obtain ⟨_,_,_,_,_,_,_,_⟩:=Bj BK101.out
          obtain ⟨_,_,_,_,_,_,_,_⟩:=Bj BK102.out
          go_wp2
          refine bodyPost_ret (results_cell_row rfl _ _ gb102 28 #[.int .i64 a0_0, .int .i64 x102001_3, .int .i64 x102002_3, .string a0_3] (0,0) _ rfl zp5 Tryz.underlying28 rfl (by kernel_rfl)) rfl ?_
          exact ⟨by first|rfl|(simp [errW_none,errW_some] <;> rfl)|(simp [*,errW_none,errW_some] <;> rfl),by repeat first|(with_reducible first|exact HB.out|apply zA|apply zN|apply z1|refine zS ?_ GE101.out|refine zS ?_ GE102.out)|exact HB.out⟩
        ·rw [if_neg c18] at H
         have c18b0:decide (0 < x102002_3) = false:=decide_eq_false c18
         clear c18
         simp only [Option.some.injEq,Prod.mk.injEq] at H
         obtain ⟨rfl,rfl,rfl,rfl⟩:=H
         have hnb25:=NB101_102.out
         have hnc25:=NB102_101.out
         obtain ⟨_,_,_,_,_,_,_,_⟩:=Bj BK101.out
         obtain ⟨_,_,_,_,_,_,_,_⟩:=Bj BK102.out
         go_wp2
         refine bodyPost_ret (results_cell_row rfl _ _ gb102 28 #[.int .i64 a0_0, .int .i64 x102001_3, .int .i64 x102002_3, .string a0_3] (0,0) _ rfl zp5 Tryz.underlying28 rfl (by kernel_rfl)) rfl ?_
         exact ⟨by first|rfl|(simp [errW_none,errW_some] <;> rfl)|(simp [*,errW_none,errW_some] <;> rfl),by repeat first|(with_reducible first|exact HB.out|apply zA|apply zN|apply z1|refine zS ?_ GE101.out|refine zS ?_ GE102.out)|exact HB.out⟩
       ·rw [if_neg c17] at H
        have c17b0:(a0_0 == 3) = false:=beq_eq_false_iff_ne.mpr c17
        have c17b1:(a0_0 != 3) = true:=bne_iff_ne.mpr c17
        simp only [Option.some.injEq,Prod.mk.injEq] at H
        obtain ⟨rfl,rfl,rfl,rfl⟩:=H
        have hnb28:=NB101_102.out
        have hnc28:=NB102_101.out
        obtain ⟨_,_,_,_,_,_,_,_⟩:=Bj BK101.out
        obtain ⟨_,_,_,_,_,_,_,_⟩:=Bj BK102.out
        go_wp2
        refine bodyPost_ret (results_cell_row rfl _ _ gb102 28 #[.int .i64 a0_0, .int .i64 x102001_3, .int .i64 x102002_3, .string a0_3] (0,0) _ rfl zp5 Tryz.underlying28 rfl (by kernel_rfl)) rfl ?_
        exact ⟨by first|rfl|(simp [errW_none,errW_some] <;> rfl)|(simp [*,errW_none,errW_some] <;> rfl),by repeat first|(with_reducible first|exact HB.out|apply zA|apply zN|apply z1|refine zS ?_ GE101.out|refine zS ?_ GE102.out)|exact HB.out⟩
end Go.Proofs.YtdlkibeljkapeaaGreatDoor.B
