-- Written by drive.py and pack.py (programs of this proof's own) through the kit's printer; not trusted: Lean checks it.
import Derived.Test.YtglffgneikoeaaaCEvalAll4
import Derived.Test.YtglffgneikoeaaaCEvalAll5
namespace Go.Proofs.Ytglffgneikoeaaa.M
open Go.RowKit Go.Proofs.YtglffgneikoeaaaW.PrintWords Go.Proofs.YtglffgneikoeaaaW.PrintLast Go.Proofs.YtglffgneikoeaaaW.PrintMore
attribute [local go_sem] max2_int min2_int max_two min_two max_three min_three max_four min_four
attribute [local go_sem high] own_gtr own_leq own_geq own_cell_set Option.map_some
set_option linter.unusedVariables false
set_option linter.unusedSimpArgs false
theorem wrap64_of {x:Int} (h0 : -9223372036854775808≤x) (h1:x≤9223372036854775807):wrap64 x=x:=by
 unfold wrap64;omega
def p10 (n:Nat):Int:=(10:Int) ^ n
theorem p10_pos (n:Nat):0 < p10 n:=Int.pow_pos (by decide)
theorem p10_zero:p10 0=1:=rfl
theorem p10_succ (n:Nat):p10 (n+1)=p10 n*10:=by unfold p10;rw [Int.pow_succ]
theorem p10_mono {m n:Nat} (h:m≤n):p10 m≤p10 n:=by
 induction h with
 | refl=>exact Int.le_refl _
 | step _ ih=>rw [p10_succ];have:=p10_pos m;omega
theorem p10_le (n:Nat) (h:n≤18):p10 n≤1000000000000000000:=by
 have:=p10_mono h
 have e:p10 18=1000000000000000000:=by decide
 omega
theorem p10_six:p10 6=1000000:=by decide
theorem p10_add (m n:Nat):p10 (m+n)=p10 m*p10 n:=by unfold p10;rw [Int.pow_add]
theorem A5f:∀ (d:Nat) (k i:Nat),d < k→i+d≤18→Ad2.l0 k (p10 i) ((i+d:Nat):Int) (i:Int)=some (p10 (i+d))
 | 0,k,i,hk,h=>by
  obtain ⟨k,rfl⟩:∃ m,k=m+1:=⟨k - 1,by omega⟩
  simp only [Ad2.l0];rw [if_neg (by omega)];rfl
 | d+1,k,i,hk,h=>by
  obtain ⟨k,rfl⟩:∃ m,k=m+1:=⟨k - 1,by omega⟩
  simp only [Ad2.l0];rw [if_pos (by omega)]
  have h1:=p10_le (i+1) (by omega)
  have h2:=p10_pos (i+1)
  rw [← p10_succ,wrap64_of (by omega) (by omega),wrap64_of (by omega) (by omega)]
  have:=A5f d k (i+1) (by omega) (by omega)
  rw [show i+1+d=i+(d+1) by omega] at this
  exact this
theorem A2u (k n:Nat) (hk:18 < k) (h:n≤18):Ad2.f k (n:Int)=some (p10 n):=by
 have:=A5f n k 0 (by omega) (by omega)
 rw [Nat.zero_add] at this
 exact this
theorem A5d:∀ (d:Nat) (k i:Nat),d < k→i+d≤18→Ad7.l0 k ((i+d:Nat):Int) (p10 i) (i:Int)=some (p10 (i+d))
 | 0,k,i,hk,h=>by
  obtain ⟨k,rfl⟩:∃ m,k=m+1:=⟨k - 1,by omega⟩
  simp only [Ad7.l0];rw [if_neg (by omega)];rfl
 | d+1,k,i,hk,h=>by
  obtain ⟨k,rfl⟩:∃ m,k=m+1:=⟨k - 1,by omega⟩
  simp only [Ad7.l0];rw [if_pos (by omega)]
  have h1:=p10_le (i+1) (by omega)
  have h2:=p10_pos (i+1)
  rw [Int.mul_comm,← p10_succ,wrap64_of (by omega) (by omega),wrap64_of (by omega) (by omega)]
  have:=A5d d k (i+1) (by omega) (by omega)
  rw [show i+1+d=i+(d+1) by omega] at this
  exact this
theorem A2l (k n:Nat) (hk:18 < k) (h:n≤18):Ad7.f k (n:Int)=some (p10 n):=by
 have:=A5d n k 0 (by omega) (by omega)
 rw [Nat.zero_add] at this
 exact this
def red:Int→Nat→Int × Nat
 | n,0=>(n,0)
 | n,s+1=>if n % 10=0 then red (n / 10) s else (n,s+1)
theorem red_zero:∀ s,red 0 s=(0,0)
 | 0=>rfl
 | s+1=>by simp only [red];rw [if_pos (by decide)];exact red_zero s
theorem red_ten (n:Int) (s:Nat):red (n*10) (s+1)=red n s:=by
 simp only [red];rw [if_pos (by omega),show n*10 / 10=n by omega]
theorem red_tens (n:Int):∀ (j s:Nat),red (n*p10 j) (s+j)=red n s
 | 0,s=>by rw [p10_zero,Int.mul_one];rfl
 | j+1,s=>by rw [p10_succ,← Int.mul_assoc,← Nat.add_assoc,red_ten];exact red_tens n j s
theorem red_scale:∀ (s:Nat) (n:Int),(red n s).2≤s
 | 0,_=>Nat.le_refl _
 | s+1,n=>by
  simp only [red]
  split
  ·exact Nat.le_succ_of_le (red_scale s _)
  ·exact Nat.le_refl _
theorem red_value:∀ (s:Nat) (n:Int),(red n s).1*p10 (s - (red n s).2)=n
 | 0,n=>by simp [red,p10_zero]
 | s+1,n=>by
  simp only [red]
  split
  ·rename_i h
   have ih:=red_value s (n / 10)
   have hs:=red_scale s (n / 10)
   rw [show s+1 - (red (n / 10) s).2=(s - (red (n / 10) s).2)+1 by omega,p10_succ,← Int.mul_assoc,ih]
   omega
  ·simp [p10_zero]
theorem red_done:∀ (s:Nat) (n:Int),(red n s).2=0∨(red n s).1 % 10≠0
 | 0,_=>Or.inl rfl
 | s+1,n=>by
  simp only [red]
  split
  ·exact red_done s _
  ·rename_i h;exact Or.inr h
theorem red_same (n:Int) (s:Nat) (h:s=0∨n % 10≠0):red n s=(n,s):=by
 cases s with
 | zero=>rfl
 | succ s =>
  simp only [red]
  rw [if_neg (by omega)]
theorem red_abs:∀ (s:Nat) (n:Int),(red n s).1.natAbs≤n.natAbs
 | 0,_=>Nat.le_refl _
 | s+1,n=>by
  simp only [red]
  split
  ·exact Nat.le_trans (red_abs s _) (by omega)
  ·exact Nat.le_refl _
theorem tmod10 (n:Int):(Int.tmod n 10=0)↔n % 10=0:=by
 constructor
 ·intro h;have:=Int.dvd_of_tmod_eq_zero h;omega
 ·intro h;exact Int.tmod_eq_zero_of_dvd (by omega)
theorem tdiv10 (n:Int) (h:n % 10=0):Int.tdiv n 10=n / 10:=by
 rw [Int.tdiv_eq_ediv];split<;>omega
theorem A4d (st:ByteArray):∀ (s k:Nat) (n:Int),s < k→s≤9223372036854775807→-9223372036854775808≤n→n≤9223372036854775807→Ad9.l0 k 3 n (s:Int) st=some (3,(red n s).1,((red n s).2:Int),st)
 | 0,k,n,hk,_,_,_=>by
  obtain ⟨k,rfl⟩:∃ m,k=m+1:=⟨k - 1,by omega⟩
  simp only [Ad9.l0];rw [if_pos trivial,if_neg (by omega)];rfl
 | s+1,k,n,hk,hs,h0,h1=>by
  obtain ⟨k,rfl⟩:∃ m,k=m+1:=⟨k - 1,by omega⟩
  simp only [Ad9.l0];rw [if_pos trivial,if_pos (by omega)]
  simp only [red]
  by_cases h:n % 10=0
  ·rw [if_pos ((tmod10 n).2 h),if_pos h,tdiv10 n h,wrap64_of (by omega) (by omega),wrap64_of (by omega) (by omega),show ((s+1:Nat):Int) - 1=(s:Int) by omega]
   exact A4d st s k (n / 10) (by omega) (by omega) (by omega) (by omega)
  ·rw [if_neg (fun e=>h ((tmod10 n).1 e)),if_neg h]
theorem A7n (k s:Nat) (n:Int) (st:ByteArray) (hk:s+2 < k) (hs:s≤9223372036854775807) (h0 : -9223372036854775808≤n) (h1:n≤9223372036854775807):Ad9.f k 3 n (s:Int) st=some (3,(red n s).1,((red n s).2:Int),st):=by
 obtain ⟨k,rfl⟩:∃ m,k=m+2:=⟨k - 2,by omega⟩
 unfold Ad9.f
 rw [if_pos rfl]
 simp only [Ad9.j0,Ad9.j1]
 by_cases h:n=0
 ·subst h
  rw [red_zero]
  simp only [beq_self_eq_true,if_true]
  rw [show mn (s:Int) 0=((0:Nat):Int) by unfold mn;split<;>omega]
  have:=A4d st 0 k 0 (by omega) (by omega) (by omega) (by omega)
  exact this
 ·rw [if_neg (by simpa using h)]
  exact A4d st s k n (by omega) hs h0 h1
theorem ref_Norm_l0 (st:ByteArray):∀ (s k:Nat) (n:Int),s < k→s≤9223372036854775807→-9223372036854775808≤n→n≤9223372036854775807→federationref1_Norm.l0 k 3 n (s:Int) st=some (3,(red n s).1,((red n s).2:Int),st)
 | 0,k,n,hk,_,_,_=>by
  obtain ⟨k,rfl⟩:∃ m,k=m+1:=⟨k - 1,by omega⟩
  simp only [federationref1_Norm.l0];rw [if_pos trivial,if_neg (by omega)];rfl
 | s+1,k,n,hk,hs,h0,h1=>by
  obtain ⟨k,rfl⟩:∃ m,k=m+1:=⟨k - 1,by omega⟩
  simp only [federationref1_Norm.l0];rw [if_pos trivial,if_pos (by omega)]
  simp only [red]
  by_cases h:n % 10=0
  ·rw [if_pos ((tmod10 n).2 h),if_pos h,tdiv10 n h,wrap64_of (by omega) (by omega),wrap64_of (by omega) (by omega),show ((s+1:Nat):Int) - 1=(s:Int) by omega]
   exact ref_Norm_l0 st s k (n / 10) (by omega) (by omega) (by omega) (by omega)
  ·rw [if_neg (fun e=>h ((tmod10 n).1 e)),if_neg h]
theorem ref_Norm_eq (k s:Nat) (n:Int) (st:ByteArray) (hk:s+2 < k) (hs:s≤9223372036854775807) (h0 : -9223372036854775808≤n) (h1:n≤9223372036854775807):federationref1_Norm.f k 3 n (s:Int) st=some (3,(red n s).1,((red n s).2:Int),st):=by
 obtain ⟨k,rfl⟩:∃ m,k=m+2:=⟨k - 2,by omega⟩
 unfold federationref1_Norm.f
 rw [if_pos rfl]
 simp only [federationref1_Norm.j0,federationref1_Norm.j1]
 by_cases h:n=0
 ·subst h
  rw [red_zero]
  by_cases hs0:(s:Int) > 0
  ·rw [if_pos hs0]
   simp only [beq_self_eq_true,if_true]
   exact ref_Norm_l0 st 0 k 0 (by omega) (by omega) (by omega) (by omega)
  ·rw [if_neg hs0,show (s:Int)=((0:Nat):Int) by omega]
   simp only [Bool.false_eq_true,if_false]
   exact ref_Norm_l0 st 0 k 0 (by omega) (by omega) (by omega) (by omega)
 ·have hl:=ref_Norm_l0 st s k n (by omega) hs h0 h1
  by_cases hs0:(s:Int) > 0
  ·rw [if_pos hs0,if_neg (by simpa using h)];exact hl
  ·rw [if_neg hs0];simp only [Bool.false_eq_true,if_false];exact hl
end Go.Proofs.Ytglffgneikoeaaa.M
namespace Go.Proofs.Ytglffgneikoeaaa.M
open Go.RowKit Go.Proofs.YtglffgneikoeaaaW.PrintWords Go.Proofs.YtglffgneikoeaaaW.PrintLast Go.Proofs.YtglffgneikoeaaaW.PrintMore
attribute [local go_sem] max2_int min2_int max_two min_two max_three min_three max_four min_four
attribute [local go_sem high] own_gtr own_leq own_geq own_cell_set Option.map_some
set_option linter.unusedVariables false
set_option linter.unusedSimpArgs false
def val_printable.l0:Nat → ByteArray → Int → Option (Bool)
 | 0,_,_=>none
 | k + 1,x0,x3=>if x3 < (x0.size:Int) then (if 0 ≤ x3 then (if (bt x0 x3) < 32 then (some false) else (if (bt x0 x3) > 126 then (some false) else (val_printable.l0 k x0 (wrap64 (x3 + 1))))) else (none)) else (some true)
def val_printable.f (k:Nat) (a0:ByteArray):Option (Bool):=val_printable.l0 k a0 0
set_option maxHeartbeats 8000000 in
set_option maxRecDepth 100000 in
theorem val_printable.calls (k:Nat) (a0:ByteArray) (r:Bool) (w:World) (h:val_printable.f k a0 = some r) :
  Calls Try.prog 102 #[.string a0] w fun e w'=>e = .returned (.bool r) ∧ Drawn0 w w':=by
 have H:(val_printable.l0 k a0 0) = some r:=h
 clear h
 have H':=z_ H
 clear H
 go_enter Try.func102,Try.ntmps102
 go_wp2
 go_loopg [3] k (fun kq v3 w'=>∃ (x3_1:Int),v3 = .int .i64 x3_1 ∧ Aside0 (val_printable.l0 kq a0 x3_1 = some r) ∧ Aside0 (kq ≤ k) ∧ Drawn0 w w')
 case atStart=>exact ⟨(0),Adz,H',⟨Nat.le_refl _⟩,by repeat (first|exact Drawn0.refl _|apply Drawn0.step)⟩
 case round =>
  clear H'
  try clear c1
  obtain ⟨x3_1,rfl,HA,HK1,⟨m1,rfl⟩⟩:=hrel
  cases gk with
  | zero=>exact absurd HA.out (by simp [val_printable.l0])
  | succ k1 =>
   have H:=HA.out
   clear HA
   simp only [val_printable.l0] at H
   by_cases c2:x3_1 < (a0.size:Int)
   ·rw [if_pos c2] at H
    have c2b0:decide (x3_1 < (a0.size:Int)) = true:=decide_eq_true c2
    clear c2
    by_cases c3:0 ≤ x3_1
    ·rw [if_pos c3] at H
     have c3b0:decide (0 ≤ x3_1) = true:=decide_eq_true c3
     clear c3
     by_cases c5:(bt a0 x3_1) < 32
     ·rw [if_pos c5] at H
      have c5b0:decide ((bt a0 x3_1) < 32) = true:=decide_eq_true c5
      clear c5
      obtain rfl:=Option.some.inj H
      have p4:0 ≤ (x3_1:Int):=of_decide_eq_true Aed
      have q4:x3_1 < (a0.size:Int):=of_decide_eq_true Aed
      have hx4:=bt_at a0 x3_1
      replace p4:=eq_true p4
      replace q4:=eq_true q4
      go_wp2
      go_ret
      exact ⟨by first|rfl|(simp;done)|(simp [*];done),by repeat (first|exact Drawn0.refl _|apply Drawn0.step)⟩
     ·rw [if_neg c5] at H
      have c5b0:decide ((bt a0 x3_1) < 32) = false:=decide_eq_false c5
      clear c5
      by_cases c7:(bt a0 x3_1) > 126
      ·rw [if_pos c7] at H
       have c7b0:decide (126 < (bt a0 x3_1)) = true:=decide_eq_true c7
       clear c7
       obtain rfl:=Option.some.inj H
       have p4:0 ≤ (x3_1:Int):=of_decide_eq_true Aed
       have q4:x3_1 < (a0.size:Int):=of_decide_eq_true Aed
       have hx4:=bt_at a0 x3_1
       replace p4:=eq_true p4
       replace q4:=eq_true q4
       have p6:0 ≤ (x3_1:Int):=of_decide_eq_true Aed
       have q6:x3_1 < (a0.size:Int):=of_decide_eq_true Aed
       have hx6:=bt_at a0 x3_1
       replace p6:=eq_true p6
       replace q6:=eq_true q6
       go_wp2
       go_ret
       exact ⟨by first|rfl|(simp;done)|(simp [*];done),by repeat (first|exact Drawn0.refl _|apply Drawn0.step)⟩
      ·rw [if_neg c7] at H
       have c7b0:decide (126 < (bt a0 x3_1)) = false:=decide_eq_false c7
       clear c7
       have H':=z_ H
       clear H
       have p4:0 ≤ (x3_1:Int):=of_decide_eq_true Aed
       have q4:x3_1 < (a0.size:Int):=of_decide_eq_true Aed
       have hx4:=bt_at a0 x3_1
       replace p4:=eq_true p4
       replace q4:=eq_true q4
       have p6:0 ≤ (x3_1:Int):=of_decide_eq_true Aed
       have q6:x3_1 < (a0.size:Int):=of_decide_eq_true Aed
       have hx6:=bt_at a0 x3_1
       replace p6:=eq_true p6
       replace q6:=eq_true q6
       go_wp2
       go_roundg k1
       case measure=>have:=HK1.out;omega
       case rel=>exact ⟨(wrap64 (x3_1 + 1)),Adz,H',⟨by have:=HK1.out;omega⟩,by repeat (first|exact Drawn0.refl _|apply Drawn0.step)⟩
    ·rw [if_neg c3] at H
     exact absurd H (by simp)
   ·rw [if_neg c2] at H
    have c2b0:decide (x3_1 < (a0.size:Int)) = false:=decide_eq_false c2
    clear c2
    obtain rfl:=Option.some.inj H
    go_wp2
    go_ret
    exact ⟨by first|rfl|(simp;done)|(simp [*];done),by repeat (first|exact Drawn0.refl _|apply Drawn0.step)⟩
end Go.Proofs.Ytglffgneikoeaaa.M
namespace Go.Proofs.Ytglffgneikoeaaa.M
open Go.RowKit Go.Proofs.YtglffgneikoeaaaW.PrintWords Go.Proofs.YtglffgneikoeaaaW.PrintLast Go.Proofs.YtglffgneikoeaaaW.PrintMore
attribute [local go_sem] max2_int min2_int max_two min_two max_three min_three max_four min_four
attribute [local go_sem high] own_gtr own_leq own_geq own_cell_set Option.map_some
set_option linter.unusedVariables false
set_option linter.unusedSimpArgs false
def Ams.l0:Nat → ByteArray → Int → Option (Bool)
 | 0,_,_=>none
 | k + 1,x0,x3=>if x3 < (x0.size:Int) then (if 0 ≤ x3 then (if (bt x0 x3) < 32 then (some false) else (if (bt x0 x3) > 126 then (some false) else (Ams.l0 k x0 (wrap64 (x3 + 1))))) else (none)) else (some true)
def Ams.f (k:Nat) (a0:ByteArray):Option (Bool):=Ams.l0 k a0 0
set_option maxHeartbeats 8000000 in
set_option maxRecDepth 100000 in
theorem Ams.calls (k:Nat) (a0:ByteArray) (r:Bool) (w:World) (h:Ams.f k a0 = some r) :
  Calls Try.prog 52 #[.string a0] w fun e w'=>e = .returned (.bool r) ∧ Drawn0 w w':=by
 have H:(Ams.l0 k a0 0) = some r:=h
 clear h
 have H':=z_ H
 clear H
 go_enter Try.func52,Try.ntmps52
 go_wp2
 go_loopg [3] k (fun kq v3 w'=>∃ (x3_1:Int),v3 = .int .i64 x3_1 ∧ Aside0 (Ams.l0 kq a0 x3_1 = some r) ∧ Aside0 (kq ≤ k) ∧ Drawn0 w w')
 case atStart=>exact ⟨(0),Adz,H',⟨Nat.le_refl _⟩,by repeat (first|exact Drawn0.refl _|apply Drawn0.step)⟩
 case round =>
  clear H'
  obtain ⟨x3_1,rfl,HA,HK1,⟨m1,rfl⟩⟩:=hrel
  cases gk with
  | zero=>exact absurd HA.out (by simp [Ams.l0])
  | succ k1 =>
   have H:=HA.out
   clear HA
   simp only [Ams.l0] at H
   by_cases c2:x3_1 < (a0.size:Int)
   ·rw [if_pos c2] at H
    have c2b0:decide (x3_1 < (a0.size:Int)) = true:=decide_eq_true c2
    clear c2
    by_cases c3:0 ≤ x3_1
    ·rw [if_pos c3] at H
     have c3b0:decide (0 ≤ x3_1) = true:=decide_eq_true c3
     clear c3
     by_cases c5:(bt a0 x3_1) < 32
     ·rw [if_pos c5] at H
      have c5b0:decide ((bt a0 x3_1) < 32) = true:=decide_eq_true c5
      clear c5
      obtain rfl:=Option.some.inj H
      have p4:0 ≤ (x3_1:Int):=of_decide_eq_true Aed
      have q4:x3_1 < (a0.size:Int):=of_decide_eq_true Aed
      have hx4:=bt_at a0 x3_1
      replace p4:=eq_true p4
      replace q4:=eq_true q4
      go_wp2
      go_ret
      exact ⟨by first|rfl|(simp;done)|(simp [*];done),by repeat (first|exact Drawn0.refl _|apply Drawn0.step)⟩
     ·rw [if_neg c5] at H
      have c5b0:decide ((bt a0 x3_1) < 32) = false:=decide_eq_false c5
      clear c5
      by_cases c7:(bt a0 x3_1) > 126
      ·rw [if_pos c7] at H
       have c7b0:decide (126 < (bt a0 x3_1)) = true:=decide_eq_true c7
       clear c7
       obtain rfl:=Option.some.inj H
       have p4:0 ≤ (x3_1:Int):=of_decide_eq_true Aed
       have q4:x3_1 < (a0.size:Int):=of_decide_eq_true Aed
       have hx4:=bt_at a0 x3_1
       replace p4:=eq_true p4
       replace q4:=eq_true q4
       have p6:0 ≤ (x3_1:Int):=of_decide_eq_true Aed
       have q6:x3_1 < (a0.size:Int):=of_decide_eq_true Aed
       have hx6:=bt_at a0 x3_1
       replace p6:=eq_true p6
       replace q6:=eq_true q6
       go_wp2
       go_ret
       exact ⟨by first|rfl|(simp;done)|(simp [*];done),by repeat (first|exact Drawn0.refl _|apply Drawn0.step)⟩
      ·rw [if_neg c7] at H
       have c7b0:decide (126 < (bt a0 x3_1)) = false:=decide_eq_false c7
       clear c7
       have H':=z_ H
       clear H
       have p4:0 ≤ (x3_1:Int):=of_decide_eq_true Aed
       have q4:x3_1 < (a0.size:Int):=of_decide_eq_true Aed
       have hx4:=bt_at a0 x3_1
       replace p4:=eq_true p4
       replace q4:=eq_true q4
       have p6:0 ≤ (x3_1:Int):=of_decide_eq_true Aed
       have q6:x3_1 < (a0.size:Int):=of_decide_eq_true Aed
       have hx6:=bt_at a0 x3_1
       replace p6:=eq_true p6
       replace q6:=eq_true q6
       go_wp2
       go_roundg k1
       case measure=>have:=HK1.out;omega
       case rel=>exact ⟨(wrap64 (x3_1 + 1)),Adz,H',⟨by have:=HK1.out;omega⟩,by repeat (first|exact Drawn0.refl _|apply Drawn0.step)⟩
    ·rw [if_neg c3] at H
     exact absurd H (by simp)
   ·rw [if_neg c2] at H
    have c2b0:decide (x3_1 < (a0.size:Int)) = false:=decide_eq_false c2
    clear c2
    obtain rfl:=Option.some.inj H
    go_wp2
    go_ret
    exact ⟨by first|rfl|(simp;done)|(simp [*];done),by repeat (first|exact Drawn0.refl _|apply Drawn0.step)⟩
end Go.Proofs.Ytglffgneikoeaaa.M
namespace Go.Proofs.Ytglffgneikoeaaa.M
open Go.RowKit Go.Proofs.YtglffgneikoeaaaW.PrintWords Go.Proofs.YtglffgneikoeaaaW.PrintLast Go.Proofs.YtglffgneikoeaaaW.PrintMore
attribute [local go_sem] max2_int min2_int max_two min_two max_three min_three max_four min_four
attribute [local go_sem high] own_gtr own_leq own_geq own_cell_set Option.map_some
set_option linter.unusedVariables false
set_option linter.unusedSimpArgs false
theorem eqA28 (d:Nat) (w:World) (x0 y0:Int) (x1 y1:Int) (x2 y2:Int) (x3 y3:ByteArray) :
  (Op.equalIn (d + 2) 28 (.agg #[.int .i64 x0, .int .i64 x1, .int .i64 x2, .string x3]) (.agg #[.int .i64 y0, .int .i64 y1, .int .i64 y2, .string y3])).run Try.prog w = .ok (x0 == y0 && (x1 == y1 && (x2 == y2 && (x3.toList == y3.toList)))) w:=by
 refine eqA_of Try.underlying28 (by kernel_rfl) ?_
 refine eqf_cons (by rfl) (by go_simp;rfl) (by go_simp;rfl) (by go_simp) ?_
 refine eqf_cons (by rfl) (by go_simp;rfl) (by go_simp;rfl) (by go_simp) ?_
 refine eqf_cons (by rfl) (by go_simp;rfl) (by go_simp;rfl) (by go_simp) ?_
 exact eqf_last (by rfl) (by go_simp;rfl) (by go_simp;rfl) (by go_simp)
end Go.Proofs.Ytglffgneikoeaaa.M
namespace Go.Proofs.Ytglffgneikoeaaa.M
open Go.RowKit Go.Proofs.YtglffgneikoeaaaW.PrintWords Go.Proofs.YtglffgneikoeaaaW.PrintLast Go.Proofs.YtglffgneikoeaaaW.PrintMore
attribute [local go_sem] max2_int min2_int max_two min_two max_three min_three max_four min_four
attribute [local go_sem high] own_gtr own_leq own_geq own_cell_set Option.map_some
set_option linter.unusedVariables false
set_option linter.unusedSimpArgs false
attribute [local go_sem high] eqA28
def Amj.f (k:Nat) (a0_0:Int) (a0_1:Int) (a0_2:Int) (a0_3:ByteArray):Option (Bool):=if a0_0 = 0 then (some (a0_0 == 0 && (a0_1 == 0 && (a0_2 == 0 && (a0_3.toList == ([]:List UInt8)))))) else (if a0_0 = 1 then (if a0_1 ≥ 0 then (if a0_1 ≤ 1 then (if a0_2 = 0 then (some (a0_3.toList == ([]:List UInt8))) else (some false)) else (some false)) else (some false)) else (if a0_0 = 2 then (if a0_2 = 0 then (some (a0_3.toList == ([]:List UInt8))) else (some false)) else (if a0_0 = 3 then (if a0_1 > (-1000000000000000) then (if a0_1 < 1000000000000000 then (if a0_2 ≥ 0 then (if a0_2 ≤ 6 then (if a0_2 = 0 then (some (a0_3.toList == ([]:List UInt8))) else (if (Int.tmod a0_1 10) = 0 then (some false) else (some (a0_3.toList == ([]:List UInt8))))) else (some false)) else (some false)) else (some false)) else (some false)) else (if a0_0 = 4 then (if a0_1 = 0 then (if a0_2 = 0 then (if (a0_3.size:Int) ≤ 40 then ((Ams.f k a0_3).bind fun t102=>(some t102)) else (some false)) else (some false)) else (some false)) else (if a0_0 = 5 then (if a0_1 = 0 then (if a0_2 = 0 then (some (decide ((a0_3.size:Int) ≤ 40))) else (some false)) else (some false)) else (some false))))))
set_option maxHeartbeats 8000000 in
set_option maxRecDepth 100000 in
theorem Amj.calls (k:Nat) (a0_0:Int) (a0_1:Int) (a0_2:Int) (a0_3:ByteArray) (r:Bool) (w:World) (h:Amj.f k a0_0 a0_1 a0_2 a0_3 = some r) :
  Calls Try.prog 21 #[.agg #[.int .i64 a0_0, .int .i64 a0_1, .int .i64 a0_2, .string a0_3]] w fun e w'=>e = .returned (.bool r) ∧ Below w.heap.size w w':=by
 have hu28:=Try.underlying28
 have HB:=z_ (Below.refl w.heap.size w)
 have H:(if a0_0 = 0 then (some (a0_0 == 0 && (a0_1 == 0 && (a0_2 == 0 && (a0_3.toList == ([]:List UInt8)))))) else (if a0_0 = 1 then (if a0_1 ≥ 0 then (if a0_1 ≤ 1 then (if a0_2 = 0 then (some (a0_3.toList == ([]:List UInt8))) else (some false)) else (some false)) else (some false)) else (if a0_0 = 2 then (if a0_2 = 0 then (some (a0_3.toList == ([]:List UInt8))) else (some false)) else (if a0_0 = 3 then (if a0_1 > (-1000000000000000) then (if a0_1 < 1000000000000000 then (if a0_2 ≥ 0 then (if a0_2 ≤ 6 then (if a0_2 = 0 then (some (a0_3.toList == ([]:List UInt8))) else (if (Int.tmod a0_1 10) = 0 then (some false) else (some (a0_3.toList == ([]:List UInt8))))) else (some false)) else (some false)) else (some false)) else (some false)) else (if a0_0 = 4 then (if a0_1 = 0 then (if a0_2 = 0 then (if (a0_3.size:Int) ≤ 40 then ((Ams.f k a0_3).bind fun t102=>(some t102)) else (some false)) else (some false)) else (some false)) else (if a0_0 = 5 then (if a0_1 = 0 then (if a0_2 = 0 then (some (decide ((a0_3.size:Int) ≤ 40))) else (some false)) else (some false)) else (some false))))))) = some r:=h
 clear h
 by_cases c2:a0_0 = 0
 ·rw [if_pos c2] at H
  have c2b0:(a0_0 == 0) = true:=beq_iff_eq.mpr c2
  have c2b1:(a0_0 != 0) = false:=bne_eq_false_iff_eq.mpr c2
  clear c2
  obtain rfl:=Option.some.inj H
  go_enter Try.func21,Try.ntmps21
  go_wp2_with (first|((with_reducible refine gate_dst (N:=1) rfl ?_);(try (refine gate_guard (by rfl) ?_;dsimp only));refine box_event (by rfl) (N:=1) (by rfl) (cs:=#[.int .i64 a0_0, .int .i64 a0_1, .int .i64 a0_2, .string a0_3]) (t:=28) W3 ?_;intro gb101 hg w3 hbox hb;have BK101:=z_ (hbox);have GW101:=z_ ((W0:w.heap.size ≤ gb101));have GE101:=z_ ((W0:w.heap.size ≤ gb101));replace HB:=z_ (below_step W5 hb);clear hb hbox hg;obtain ⟨_,_,_,_,_,_,_,_⟩:=Rr BK101.out))
  go_ret
  exact ⟨by first|rfl|(simp [errW_none,errW_some] <;> rfl)|(simp [*,errW_none,errW_some] <;> rfl),by repeat first|(with_reducible first|exact HB.out|apply zA|apply zN|apply z1|refine zS ?_ GE101.out)|exact HB.out⟩
 ·rw [if_neg c2] at H
  have c2b0:(a0_0 == 0) = false:=beq_eq_false_iff_ne.mpr c2
  have c2b1:(a0_0 != 0) = true:=bne_iff_ne.mpr c2
  by_cases c5:a0_0 = 1
  ·rw [if_pos c5] at H
   have c5b0:(a0_0 == 1) = true:=beq_iff_eq.mpr c5
   have c5b1:(a0_0 != 1) = false:=bne_eq_false_iff_eq.mpr c5
   clear c5
   by_cases c6:a0_1 ≥ 0
   focus
    rw [if_pos c6] at H
    have c6b0:decide (0 ≤ a0_1) = true:=decide_eq_true c6
    clear c6
    by_cases c7:a0_1 ≤ 1
    focus
     rw [if_pos c7] at H
     have c7b0:decide (a0_1 ≤ 1) = true:=decide_eq_true c7
     clear c7
     by_cases c8:a0_2 = 0
     focus
      rw [if_pos c8] at H
      have c8b0:(a0_2 == 0) = true:=beq_iff_eq.mpr c8
      have c8b1:(a0_2 != 0) = false:=bne_eq_false_iff_eq.mpr c8
      clear c8
      obtain rfl:=Option.some.inj H
     rotate_left
     focus
      rw [if_neg c8] at H
      have c8b0:(a0_2 == 0) = false:=beq_eq_false_iff_ne.mpr c8
      have c8b1:(a0_2 != 0) = true:=bne_iff_ne.mpr c8
      obtain rfl:=Option.some.inj H
     rotate_left
    rotate_left 2
    focus
     rw [if_neg c7] at H
     have c7b0:decide (a0_1 ≤ 1) = false:=decide_eq_false c7
     clear c7
     obtain rfl:=Option.some.inj H
    rotate_left
   rotate_left 3
   focus
    rw [if_neg c6] at H
    have c6b0:decide (0 ≤ a0_1) = false:=decide_eq_false c6
    clear c6
    obtain rfl:=Option.some.inj H
   rotate_left
   all_goals
    go_enter Try.func21,Try.ntmps21
    go_wp2_with (first|((with_reducible refine gate_dst (N:=1) rfl ?_);(try (refine gate_guard (by rfl) ?_;dsimp only));refine box_event (by rfl) (N:=1) (by rfl) (cs:=#[.int .i64 a0_0, .int .i64 a0_1, .int .i64 a0_2, .string a0_3]) (t:=28) W3 ?_;intro gb101 hg w9 hbox hb;have BK101:=z_ (hbox);have GW101:=z_ ((W0:w.heap.size ≤ gb101));have GE101:=z_ ((W0:w.heap.size ≤ gb101));replace HB:=z_ (below_step W5 hb);clear hb hbox hg;obtain ⟨_,_,_,_,_,_,_,_⟩:=Rr BK101.out))
    go_ret
    exact ⟨by first|rfl|(simp [errW_none,errW_some] <;> rfl)|(simp [*,errW_none,errW_some] <;> rfl),by repeat first|(with_reducible first|exact HB.out|apply zA|apply zN|apply z1|refine zS ?_ GE101.out)|exact HB.out⟩
  ·rw [if_neg c5] at H
   have c5b0:(a0_0 == 1) = false:=beq_eq_false_iff_ne.mpr c5
   have c5b1:(a0_0 != 1) = true:=bne_iff_ne.mpr c5
   by_cases c17:a0_0 = 2
   ·rw [if_pos c17] at H
    have c17b0:(a0_0 == 2) = true:=beq_iff_eq.mpr c17
    have c17b1:(a0_0 != 2) = false:=bne_eq_false_iff_eq.mpr c17
    clear c17
    by_cases c18:a0_2 = 0
    ·rw [if_pos c18] at H
     have c18b0:(a0_2 == 0) = true:=beq_iff_eq.mpr c18
     have c18b1:(a0_2 != 0) = false:=bne_eq_false_iff_eq.mpr c18
     clear c18
     obtain rfl:=Option.some.inj H
     go_enter Try.func21,Try.ntmps21
     go_wp2_with (first|((with_reducible refine gate_dst (N:=1) rfl ?_);(try (refine gate_guard (by rfl) ?_;dsimp only));refine box_event (by rfl) (N:=1) (by rfl) (cs:=#[.int .i64 a0_0, .int .i64 a0_1, .int .i64 a0_2, .string a0_3]) (t:=28) W3 ?_;intro gb101 hg w19 hbox hb;have BK101:=z_ (hbox);have GW101:=z_ ((W0:w.heap.size ≤ gb101));have GE101:=z_ ((W0:w.heap.size ≤ gb101));replace HB:=z_ (below_step W5 hb);clear hb hbox hg;obtain ⟨_,_,_,_,_,_,_,_⟩:=Rr BK101.out))
     go_ret
     exact ⟨by first|rfl|(simp [errW_none,errW_some] <;> rfl)|(simp [*,errW_none,errW_some] <;> rfl),by repeat first|(with_reducible first|exact HB.out|apply zA|apply zN|apply z1|refine zS ?_ GE101.out)|exact HB.out⟩
    ·rw [if_neg c18] at H
     have c18b0:(a0_2 == 0) = false:=beq_eq_false_iff_ne.mpr c18
     have c18b1:(a0_2 != 0) = true:=bne_iff_ne.mpr c18
     obtain rfl:=Option.some.inj H
     go_enter Try.func21,Try.ntmps21
     go_wp2_with (first|((with_reducible refine gate_dst (N:=1) rfl ?_);(try (refine gate_guard (by rfl) ?_;dsimp only));refine box_event (by rfl) (N:=1) (by rfl) (cs:=#[.int .i64 a0_0, .int .i64 a0_1, .int .i64 a0_2, .string a0_3]) (t:=28) W3 ?_;intro gb101 hg w21 hbox hb;have BK101:=z_ (hbox);have GW101:=z_ ((W0:w.heap.size ≤ gb101));have GE101:=z_ ((W0:w.heap.size ≤ gb101));replace HB:=z_ (below_step W5 hb);clear hb hbox hg;obtain ⟨_,_,_,_,_,_,_,_⟩:=Rr BK101.out))
     go_ret
     exact ⟨by first|rfl|(simp [errW_none,errW_some] <;> rfl)|(simp [*,errW_none,errW_some] <;> rfl),by repeat first|(with_reducible first|exact HB.out|apply zA|apply zN|apply z1|refine zS ?_ GE101.out)|exact HB.out⟩
   ·rw [if_neg c17] at H
    have c17b0:(a0_0 == 2) = false:=beq_eq_false_iff_ne.mpr c17
    have c17b1:(a0_0 != 2) = true:=bne_iff_ne.mpr c17
    by_cases c23:a0_0 = 3
    ·rw [if_pos c23] at H
     have c23b0:(a0_0 == 3) = true:=beq_iff_eq.mpr c23
     have c23b1:(a0_0 != 3) = false:=bne_eq_false_iff_eq.mpr c23
     clear c23
     by_cases c24:a0_1 > (-1000000000000000)
     focus
      rw [if_pos c24] at H
      have c24b0:decide ((-1000000000000000) < a0_1) = true:=decide_eq_true c24
      clear c24
      by_cases c25:a0_1 < 1000000000000000
      focus
       rw [if_pos c25] at H
       have c25b0:decide (a0_1 < 1000000000000000) = true:=decide_eq_true c25
       clear c25
       by_cases c26:a0_2 ≥ 0
       focus
        rw [if_pos c26] at H
        have c26b0:decide (0 ≤ a0_2) = true:=decide_eq_true c26
        clear c26
        by_cases c27:a0_2 ≤ 6
        focus
         rw [if_pos c27] at H
         have c27b0:decide (a0_2 ≤ 6) = true:=decide_eq_true c27
         clear c27
         by_cases c28:a0_2 = 0
         focus
          rw [if_pos c28] at H
          have c28b0:(a0_2 == 0) = true:=beq_iff_eq.mpr c28
          have c28b1:(a0_2 != 0) = false:=bne_eq_false_iff_eq.mpr c28
          clear c28
          obtain rfl:=Option.some.inj H
         rotate_left
         focus
          rw [if_neg c28] at H
          have c28b0:(a0_2 == 0) = false:=beq_eq_false_iff_ne.mpr c28
          have c28b1:(a0_2 != 0) = true:=bne_iff_ne.mpr c28
          by_cases c31:(Int.tmod a0_1 10) = 0
          focus
           rw [if_pos c31] at H
           have c31b0:((Int.tmod a0_1 10) == 0) = true:=beq_iff_eq.mpr c31
           have c31b1:((Int.tmod a0_1 10) != 0) = false:=bne_eq_false_iff_eq.mpr c31
           clear c31
           obtain rfl:=Option.some.inj H
          rotate_left
          focus
           rw [if_neg c31] at H
           have c31b0:((Int.tmod a0_1 10) == 0) = false:=beq_eq_false_iff_ne.mpr c31
           have c31b1:((Int.tmod a0_1 10) != 0) = true:=bne_iff_ne.mpr c31
           obtain rfl:=Option.some.inj H
          rotate_left
         rotate_left 2
        rotate_left 3
        focus
         rw [if_neg c27] at H
         have c27b0:decide (a0_2 ≤ 6) = false:=decide_eq_false c27
         clear c27
         obtain rfl:=Option.some.inj H
        rotate_left
       rotate_left 4
       focus
        rw [if_neg c26] at H
        have c26b0:decide (0 ≤ a0_2) = false:=decide_eq_false c26
        clear c26
        obtain rfl:=Option.some.inj H
       rotate_left
      rotate_left 5
      focus
       rw [if_neg c25] at H
       have c25b0:decide (a0_1 < 1000000000000000) = false:=decide_eq_false c25
       clear c25
       obtain rfl:=Option.some.inj H
      rotate_left
     rotate_left 6
     focus
      rw [if_neg c24] at H
      have c24b0:decide ((-1000000000000000) < a0_1) = false:=decide_eq_false c24
      clear c24
      obtain rfl:=Option.some.inj H
     rotate_left
     all_goals
      go_enter Try.func21,Try.ntmps21
      go_wp2_with (first|((with_reducible refine gate_dst (N:=1) rfl ?_);(try (refine gate_guard (by rfl) ?_;dsimp only));refine box_event (by rfl) (N:=1) (by rfl) (cs:=#[.int .i64 a0_0, .int .i64 a0_1, .int .i64 a0_2, .string a0_3]) (t:=28) W3 ?_;intro gb101 hg w29 hbox hb;have BK101:=z_ (hbox);have GW101:=z_ ((W0:w.heap.size ≤ gb101));have GE101:=z_ ((W0:w.heap.size ≤ gb101));replace HB:=z_ (below_step W5 hb);clear hb hbox hg;obtain ⟨_,_,_,_,_,_,_,_⟩:=Rr BK101.out))
      go_ret
      exact ⟨by first|rfl|(simp [errW_none,errW_some] <;> rfl)|(simp [*,errW_none,errW_some] <;> rfl),by repeat first|(with_reducible first|exact HB.out|apply zA|apply zN|apply z1|refine zS ?_ GE101.out)|exact HB.out⟩
    ·rw [if_neg c23] at H
     have c23b0:(a0_0 == 3) = false:=beq_eq_false_iff_ne.mpr c23
     have c23b1:(a0_0 != 3) = true:=bne_iff_ne.mpr c23
     by_cases c44:a0_0 = 4
     ·rw [if_pos c44] at H
      have c44b0:(a0_0 == 4) = true:=beq_iff_eq.mpr c44
      have c44b1:(a0_0 != 4) = false:=bne_eq_false_iff_eq.mpr c44
      clear c44
      by_cases c45:a0_1 = 0
      ·rw [if_pos c45] at H
       have c45b0:(a0_1 == 0) = true:=beq_iff_eq.mpr c45
       have c45b1:(a0_1 != 0) = false:=bne_eq_false_iff_eq.mpr c45
       clear c45
       by_cases c46:a0_2 = 0
       ·rw [if_pos c46] at H
        have c46b0:(a0_2 == 0) = true:=beq_iff_eq.mpr c46
        have c46b1:(a0_2 != 0) = false:=bne_eq_false_iff_eq.mpr c46
        clear c46
        by_cases c47:(a0_3.size:Int) ≤ 40
        ·rw [if_pos c47] at H
         have c47b0:decide ((a0_3.size:Int) ≤ 40) = true:=decide_eq_true c47
         have c47b1:decide (a0_3.size ≤ 40) = true:=decide_eq_true (by omega)
         clear c47
         replace H:=Option.bind_eq_some_iff.mp H
         obtain ⟨t102,A480,H⟩:=H
         replace H:(some t102) = some r:=H
         have A48:=z_ A480
         clear A480
         obtain rfl:=Option.some.inj H
         go_enter Try.func21,Try.ntmps21
         go_wp2_with (first|((with_reducible refine gate_dst (N:=1) rfl ?_);(try (refine gate_guard (by rfl) ?_;dsimp only));refine box_event (by rfl) (N:=1) (by rfl) (cs:=#[.int .i64 a0_0, .int .i64 a0_1, .int .i64 a0_2, .string a0_3]) (t:=28) W3 ?_;intro gb101 hg w49 hbox hb;have BK101:=z_ (hbox);have GW101:=z_ ((W0:w.heap.size ≤ gb101));have GE101:=z_ ((W0:w.heap.size ≤ gb101));replace HB:=z_ (below_step W5 hb);clear hb hbox hg;obtain ⟨_,_,_,_,_,_,_,_⟩:=Rr BK101.out)|(go_at_call 52;(with_reducible refine (Ams.calls k a0_3 t102 _ A48.out).mono ?_);rintro e w' ⟨rfl,⟨nd,rfl⟩⟩))
         go_ret
         exact ⟨by first|rfl|(simp [errW_none,errW_some] <;> rfl)|(simp [*,errW_none,errW_some] <;> rfl),by repeat first|(with_reducible first|exact HB.out|apply zA|apply zN|apply z1|refine zS ?_ GE101.out)|exact HB.out⟩
        ·rw [if_neg c47] at H
         have c47b0:decide ((a0_3.size:Int) ≤ 40) = false:=decide_eq_false c47
         have c47b1:decide (a0_3.size ≤ 40) = false:=decide_eq_false (by omega)
         clear c47
         obtain rfl:=Option.some.inj H
         go_enter Try.func21,Try.ntmps21
         go_wp2_with (first|((with_reducible refine gate_dst (N:=1) rfl ?_);(try (refine gate_guard (by rfl) ?_;dsimp only));refine box_event (by rfl) (N:=1) (by rfl) (cs:=#[.int .i64 a0_0, .int .i64 a0_1, .int .i64 a0_2, .string a0_3]) (t:=28) W3 ?_;intro gb101 hg w51 hbox hb;have BK101:=z_ (hbox);have GW101:=z_ ((W0:w.heap.size ≤ gb101));have GE101:=z_ ((W0:w.heap.size ≤ gb101));replace HB:=z_ (below_step W5 hb);clear hb hbox hg;obtain ⟨_,_,_,_,_,_,_,_⟩:=Rr BK101.out))
         go_ret
         exact ⟨by first|rfl|(simp [errW_none,errW_some] <;> rfl)|(simp [*,errW_none,errW_some] <;> rfl),by repeat first|(with_reducible first|exact HB.out|apply zA|apply zN|apply z1|refine zS ?_ GE101.out)|exact HB.out⟩
       ·rw [if_neg c46] at H
        have c46b0:(a0_2 == 0) = false:=beq_eq_false_iff_ne.mpr c46
        have c46b1:(a0_2 != 0) = true:=bne_iff_ne.mpr c46
        obtain rfl:=Option.some.inj H
        go_enter Try.func21,Try.ntmps21
        go_wp2_with (first|((with_reducible refine gate_dst (N:=1) rfl ?_);(try (refine gate_guard (by rfl) ?_;dsimp only));refine box_event (by rfl) (N:=1) (by rfl) (cs:=#[.int .i64 a0_0, .int .i64 a0_1, .int .i64 a0_2, .string a0_3]) (t:=28) W3 ?_;intro gb101 hg w53 hbox hb;have BK101:=z_ (hbox);have GW101:=z_ ((W0:w.heap.size ≤ gb101));have GE101:=z_ ((W0:w.heap.size ≤ gb101));replace HB:=z_ (below_step W5 hb);clear hb hbox hg;obtain ⟨_,_,_,_,_,_,_,_⟩:=Rr BK101.out))
        go_ret
        exact ⟨by first|rfl|(simp [errW_none,errW_some] <;> rfl)|(simp [*,errW_none,errW_some] <;> rfl),by repeat first|(with_reducible first|exact HB.out|apply zA|apply zN|apply z1|refine zS ?_ GE101.out)|exact HB.out⟩
      ·rw [if_neg c45] at H
       have c45b0:(a0_1 == 0) = false:=beq_eq_false_iff_ne.mpr c45
       have c45b1:(a0_1 != 0) = true:=bne_iff_ne.mpr c45
       obtain rfl:=Option.some.inj H
       go_enter Try.func21,Try.ntmps21
       go_wp2_with (first|((with_reducible refine gate_dst (N:=1) rfl ?_);(try (refine gate_guard (by rfl) ?_;dsimp only));refine box_event (by rfl) (N:=1) (by rfl) (cs:=#[.int .i64 a0_0, .int .i64 a0_1, .int .i64 a0_2, .string a0_3]) (t:=28) W3 ?_;intro gb101 hg w55 hbox hb;have BK101:=z_ (hbox);have GW101:=z_ ((W0:w.heap.size ≤ gb101));have GE101:=z_ ((W0:w.heap.size ≤ gb101));replace HB:=z_ (below_step W5 hb);clear hb hbox hg;obtain ⟨_,_,_,_,_,_,_,_⟩:=Rr BK101.out))
       go_ret
       exact ⟨by first|rfl|(simp [errW_none,errW_some] <;> rfl)|(simp [*,errW_none,errW_some] <;> rfl),by repeat first|(with_reducible first|exact HB.out|apply zA|apply zN|apply z1|refine zS ?_ GE101.out)|exact HB.out⟩
     ·rw [if_neg c44] at H
      have c44b0:(a0_0 == 4) = false:=beq_eq_false_iff_ne.mpr c44
      have c44b1:(a0_0 != 4) = true:=bne_iff_ne.mpr c44
      by_cases c57:a0_0 = 5
      ·rw [if_pos c57] at H
       have c57b0:(a0_0 == 5) = true:=beq_iff_eq.mpr c57
       have c57b1:(a0_0 != 5) = false:=bne_eq_false_iff_eq.mpr c57
       clear c57
       by_cases c58:a0_1 = 0
       ·rw [if_pos c58] at H
        have c58b0:(a0_1 == 0) = true:=beq_iff_eq.mpr c58
        have c58b1:(a0_1 != 0) = false:=bne_eq_false_iff_eq.mpr c58
        clear c58
        by_cases c59:a0_2 = 0
        ·rw [if_pos c59] at H
         have c59b0:(a0_2 == 0) = true:=beq_iff_eq.mpr c59
         have c59b1:(a0_2 != 0) = false:=bne_eq_false_iff_eq.mpr c59
         clear c59
         obtain rfl:=Option.some.inj H
         go_enter Try.func21,Try.ntmps21
         go_wp2_with (first|((with_reducible refine gate_dst (N:=1) rfl ?_);(try (refine gate_guard (by rfl) ?_;dsimp only));refine box_event (by rfl) (N:=1) (by rfl) (cs:=#[.int .i64 a0_0, .int .i64 a0_1, .int .i64 a0_2, .string a0_3]) (t:=28) W3 ?_;intro gb101 hg w60 hbox hb;have BK101:=z_ (hbox);have GW101:=z_ ((W0:w.heap.size ≤ gb101));have GE101:=z_ ((W0:w.heap.size ≤ gb101));replace HB:=z_ (below_step W5 hb);clear hb hbox hg;obtain ⟨_,_,_,_,_,_,_,_⟩:=Rr BK101.out))
         go_ret
         exact ⟨by first|rfl|(simp [errW_none,errW_some] <;> rfl)|(simp [*,errW_none,errW_some] <;> rfl),by repeat first|(with_reducible first|exact HB.out|apply zA|apply zN|apply z1|refine zS ?_ GE101.out)|exact HB.out⟩
        ·rw [if_neg c59] at H
         have c59b0:(a0_2 == 0) = false:=beq_eq_false_iff_ne.mpr c59
         have c59b1:(a0_2 != 0) = true:=bne_iff_ne.mpr c59
         obtain rfl:=Option.some.inj H
         go_enter Try.func21,Try.ntmps21
         go_wp2_with (first|((with_reducible refine gate_dst (N:=1) rfl ?_);(try (refine gate_guard (by rfl) ?_;dsimp only));refine box_event (by rfl) (N:=1) (by rfl) (cs:=#[.int .i64 a0_0, .int .i64 a0_1, .int .i64 a0_2, .string a0_3]) (t:=28) W3 ?_;intro gb101 hg w62 hbox hb;have BK101:=z_ (hbox);have GW101:=z_ ((W0:w.heap.size ≤ gb101));have GE101:=z_ ((W0:w.heap.size ≤ gb101));replace HB:=z_ (below_step W5 hb);clear hb hbox hg;obtain ⟨_,_,_,_,_,_,_,_⟩:=Rr BK101.out))
         go_ret
         exact ⟨by first|rfl|(simp [errW_none,errW_some] <;> rfl)|(simp [*,errW_none,errW_some] <;> rfl),by repeat first|(with_reducible first|exact HB.out|apply zA|apply zN|apply z1|refine zS ?_ GE101.out)|exact HB.out⟩
       ·rw [if_neg c58] at H
        have c58b0:(a0_1 == 0) = false:=beq_eq_false_iff_ne.mpr c58
        have c58b1:(a0_1 != 0) = true:=bne_iff_ne.mpr c58
        obtain rfl:=Option.some.inj H
        go_enter Try.func21,Try.ntmps21
        go_wp2_with (first|((with_reducible refine gate_dst (N:=1) rfl ?_);(try (refine gate_guard (by rfl) ?_;dsimp only));refine box_event (by rfl) (N:=1) (by rfl) (cs:=#[.int .i64 a0_0, .int .i64 a0_1, .int .i64 a0_2, .string a0_3]) (t:=28) W3 ?_;intro gb101 hg w64 hbox hb;have BK101:=z_ (hbox);have GW101:=z_ ((W0:w.heap.size ≤ gb101));have GE101:=z_ ((W0:w.heap.size ≤ gb101));replace HB:=z_ (below_step W5 hb);clear hb hbox hg;obtain ⟨_,_,_,_,_,_,_,_⟩:=Rr BK101.out))
        go_ret
        exact ⟨by first|rfl|(simp [errW_none,errW_some] <;> rfl)|(simp [*,errW_none,errW_some] <;> rfl),by repeat first|(with_reducible first|exact HB.out|apply zA|apply zN|apply z1|refine zS ?_ GE101.out)|exact HB.out⟩
      ·rw [if_neg c57] at H
       have c57b0:(a0_0 == 5) = false:=beq_eq_false_iff_ne.mpr c57
       have c57b1:(a0_0 != 5) = true:=bne_iff_ne.mpr c57
       obtain rfl:=Option.some.inj H
       go_enter Try.func21,Try.ntmps21
       go_wp2_with (first|((with_reducible refine gate_dst (N:=1) rfl ?_);(try (refine gate_guard (by rfl) ?_;dsimp only));refine box_event (by rfl) (N:=1) (by rfl) (cs:=#[.int .i64 a0_0, .int .i64 a0_1, .int .i64 a0_2, .string a0_3]) (t:=28) W3 ?_;intro gb101 hg w66 hbox hb;have BK101:=z_ (hbox);have GW101:=z_ ((W0:w.heap.size ≤ gb101));have GE101:=z_ ((W0:w.heap.size ≤ gb101));replace HB:=z_ (below_step W5 hb);clear hb hbox hg;obtain ⟨_,_,_,_,_,_,_,_⟩:=Rr BK101.out))
       go_ret
       exact ⟨by first|rfl|(simp [errW_none,errW_some] <;> rfl)|(simp [*,errW_none,errW_some] <;> rfl),by repeat first|(with_reducible first|exact HB.out|apply zA|apply zN|apply z1|refine zS ?_ GE101.out)|exact HB.out⟩
end Go.Proofs.Ytglffgneikoeaaa.M
namespace Go.Proofs.Ytglffgneikoeaaa.M
open Go.RowKit Go.Proofs.YtglffgneikoeaaaW.PrintWords Go.Proofs.YtglffgneikoeaaaW.PrintLast Go.Proofs.YtglffgneikoeaaaW.PrintMore
attribute [local go_sem] max2_int min2_int max_two min_two max_three min_three max_four min_four
attribute [local go_sem high] own_gtr own_leq own_geq own_cell_set Option.map_some
set_option linter.unusedVariables false
set_option linter.unusedSimpArgs false
attribute [local go_sem high] eqA28
def val_Right.j0:Nat → Bool → Int → Int → Int → ByteArray → Int → Int → Int → ByteArray → Option (Bool)
 | 0,_,_,_,_,_,_,_,_,_=>none
 | k + 1,x52,x102000,x102001,x102002,x102003,x103000,x103001,x103002,x103003=>if x52 = true then (if (x102003.size:Int) > 40 then (some false) else (if x102000 = 4 then ((val_printable.f k x102003).bind fun t103=>(if t103 = true then (some (x102000 == x103000 && (x102001 == x103001 && (x102002 == x103002)))) else (some false))) else (some (x102000 == x103000 && (x102001 == x103001 && (x102002 == x103002)))))) else (some false)
def val_Right.f (k:Nat) (a0_0:Int) (a0_1:Int) (a0_2:Int) (a0_3:ByteArray):Option (Bool):=if a0_0 = 0 then (some (a0_1 == 0 && (a0_2 == 0 && (a0_3.toList == ([]:List UInt8))))) else (if a0_0 = 1 then (some (a0_1 == (mn (mx a0_1 0) 1) && (a0_2 == 0 && (a0_3.toList == ([]:List UInt8))))) else (if a0_0 = 2 then (some (a0_2 == 0 && (a0_3.toList == ([]:List UInt8)))) else (if a0_0 = 3 then (if a0_1 ≤ (-1000000000000000) then (some false) else (if a0_1 ≥ 1000000000000000 then (some false) else (if a0_2 > 0 then (if (Int.tmod a0_1 10) = 0 then (some false) else (some (a0_2 == (mn (mx a0_2 0) 6) && (a0_3.toList == ([]:List UInt8))))) else (some (a0_2 == (mn (mx a0_2 0) 6) && (a0_3.toList == ([]:List UInt8))))))) else (if a0_0 = 4 then (val_Right.j0 k (a0_0 == 4) a0_0 a0_1 a0_2 a0_3 a0_0 0 0 (⟨#[]⟩:ByteArray)) else (val_Right.j0 k (a0_0 == 5) a0_0 a0_1 a0_2 a0_3 a0_0 0 0 (⟨#[]⟩:ByteArray))))))
def val_Right.T10:Bool × List (List Nat × List Nat):=(true,[([],[]),([0],[0]),([],[]),([2],[2]),([3],[3]),([4],[4]),([0,1],[]),([6,1,0,1],[1,6]),([0,1,2,3,4,5,6,7],[]),([8,5,7,0,1,2,3,4,5,6,7],[5,8])])
def val_Right.B10:List Nat:=[0,1,0,4,12,28,3,67,255,511]
theorem val_Right.tab10:rtab .any (opsOf Try.f95 10) = val_Right.T10:=by kernel_rfl
theorem val_Right.bits10:waitsOk val_Right.T10.2 val_Right.B10 = true:=by kernel_rfl
set_option maxHeartbeats 8000000 in
set_option maxRecDepth 100000 in
theorem val_Right.calls (k:Nat) (a0_0:Int) (a0_1:Int) (a0_2:Int) (a0_3:ByteArray) (r:Bool) (w:World) (h:val_Right.f k a0_0 a0_1 a0_2 a0_3 = some r) :
  Calls Try.prog 95 #[.agg #[.int .i64 a0_0, .int .i64 a0_1, .int .i64 a0_2, .string a0_3]] w fun e w'=>e = .returned (.bool r) ∧ Below w.heap.size w w':=by
 have hu28:=Try.underlying28
 have HB:=z_ (Below.refl w.heap.size w)
 have H:(if a0_0 = 0 then (some (a0_1 == 0 && (a0_2 == 0 && (a0_3.toList == ([]:List UInt8))))) else (if a0_0 = 1 then (some (a0_1 == (mn (mx a0_1 0) 1) && (a0_2 == 0 && (a0_3.toList == ([]:List UInt8))))) else (if a0_0 = 2 then (some (a0_2 == 0 && (a0_3.toList == ([]:List UInt8)))) else (if a0_0 = 3 then (if a0_1 ≤ (-1000000000000000) then (some false) else (if a0_1 ≥ 1000000000000000 then (some false) else (if a0_2 > 0 then (if (Int.tmod a0_1 10) = 0 then (some false) else (some (a0_2 == (mn (mx a0_2 0) 6) && (a0_3.toList == ([]:List UInt8))))) else (some (a0_2 == (mn (mx a0_2 0) 6) && (a0_3.toList == ([]:List UInt8))))))) else (if a0_0 = 4 then (val_Right.j0 k (a0_0 == 4) a0_0 a0_1 a0_2 a0_3 a0_0 0 0 (⟨#[]⟩:ByteArray)) else (val_Right.j0 k (a0_0 == 5) a0_0 a0_1 a0_2 a0_3 a0_0 0 0 (⟨#[]⟩:ByteArray))))))) = some r:=h
 clear h
 by_cases c2:a0_0 = 0
 ·rw [if_pos c2] at H
  have c2b0:(a0_0 == 0) = true:=beq_iff_eq.mpr c2
  have c2b1:(a0_0 != 0) = false:=bne_eq_false_iff_eq.mpr c2
  clear c2
  obtain rfl:=Option.some.inj H
  go_enter Try.func95,Try.ntmps95
  go_wp2_with (first|((with_reducible refine gate_dst (N:=1) rfl ?_);refine box_event (by rfl) (N:=1) (by rfl) (cs:=#[.int .i64 a0_0, .int .i64 a0_1, .int .i64 a0_2, .string a0_3]) (t:=28) W3 ?_;intro gb101 hg w3 hbox hb;have BK101:=z_ (hbox);have GW101:=z_ ((W0:w.heap.size ≤ gb101));have GE101:=z_ ((W0:w.heap.size ≤ gb101));replace HB:=z_ (below_step W5 hb);clear hb hbox hg;obtain ⟨_,_,_,_,_,_,_,_⟩:=Rr BK101.out)|((with_reducible refine gate_dst (N:=3) rfl ?_);refine box_event (by rfl) (N:=3) (by rfl) (cs:=#[.int .i64 0, .int .i64 0, .int .i64 0, .string (⟨#[]⟩:ByteArray)]) (t:=28) W3 ?_;intro gb102 hg w5 hbox hb;have BK102:=z_ (hbox);have GW102:=z_ ((W6:w.heap.size ≤ gb102));have GE102:=z_ ((W6:w.heap.size ≤ gb102));replace HB:=z_ (below_step zp1 hb);have NB101_102:=z_ ((Amm:gb101 ≠ gb102));have NB102_101:=z_ ((Aml:gb102 ≠ gb101));replace BK101:=z_ (zk BK101.out hb);clear hb hbox hg;have hnb6:=NB102_101.out;have hnc6:=NB101_102.out;obtain ⟨_,_,_,_,_,_,_,_⟩:=Rr BK102.out;obtain ⟨_,_,_,_,_,_,_,_⟩:=Rr BK101.out))
  go_ret
  exact ⟨by first|rfl|(simp [errW_none,errW_some] <;> rfl)|(simp [*,errW_none,errW_some] <;> rfl),by repeat first|(with_reducible first|exact HB.out|apply zA|apply zN|apply z1|refine zS ?_ GE101.out|refine zS ?_ GE102.out)|exact HB.out⟩
 ·rw [if_neg c2] at H
  have c2b0:(a0_0 == 0) = false:=beq_eq_false_iff_ne.mpr c2
  have c2b1:(a0_0 != 0) = true:=bne_iff_ne.mpr c2
  by_cases c9:a0_0 = 1
  ·rw [if_pos c9] at H
   have c9b0:(a0_0 == 1) = true:=beq_iff_eq.mpr c9
   have c9b1:(a0_0 != 1) = false:=bne_eq_false_iff_eq.mpr c9
   clear c9
   obtain ⟨ji10,hji10⟩:∃ j_:Int,(mx a0_1 0) = j_:=⟨_,rfl⟩
   replace H:(some (a0_1 == (mn (ji10) 1) && (a0_2 == 0 && (a0_3.toList == ([]:List UInt8))))) = some r:=by first|(rw [hji10] at H;exact H)|(simp only [hji10] at H ⊢;exact H)
   (try (have hji10l:0 ≤ ji10:=by (rw [← hji10];unfold mx;(repeat' split) <;> omega)))
   (try (have hji10m:0 ≤ ji10:=by omega))
   have hji10_:(if a0_1 < 0 then 0 else a0_1) = ji10:=hji10
   obtain ⟨ji11,hji11⟩:∃ j_:Int,(mn (ji10) 1) = j_:=⟨_,rfl⟩
   replace H:(some (a0_1 == (ji11) && (a0_2 == 0 && (a0_3.toList == ([]:List UInt8))))) = some r:=by first|(rw [hji11] at H;exact H)|(simp only [hji11] at H ⊢;exact H)
   have hji11_:(if 1 < (ji10) then 1 else (ji10)) = ji11:=hji11
   obtain rfl:=Option.some.inj H
   go_enter Try.func95,Try.ntmps95
   go_wp2_with (first|((with_reducible refine gate_dst (N:=1) rfl ?_);refine box_event (by rfl) (N:=1) (by rfl) (cs:=#[.int .i64 a0_0, .int .i64 a0_1, .int .i64 a0_2, .string a0_3]) (t:=28) W3 ?_;intro gb101 hg w12 hbox hb;have BK101:=z_ (hbox);have GW101:=z_ ((W0:w.heap.size ≤ gb101));have GE101:=z_ ((W0:w.heap.size ≤ gb101));replace HB:=z_ (below_step W5 hb);clear hb hbox hg;obtain ⟨_,_,_,_,_,_,_,_⟩:=Rr BK101.out)|((with_reducible refine gate_dst (N:=3) rfl ?_);refine box_event (by rfl) (N:=3) (by rfl) (cs:=#[.int .i64 0, .int .i64 0, .int .i64 0, .string (⟨#[]⟩:ByteArray)]) (t:=28) W3 ?_;intro gb102 hg w14 hbox hb;have BK102:=z_ (hbox);have GW102:=z_ ((W6:w.heap.size ≤ gb102));have GE102:=z_ ((W6:w.heap.size ≤ gb102));replace HB:=z_ (below_step zp1 hb);have NB101_102:=z_ ((Amm:gb101 ≠ gb102));have NB102_101:=z_ ((Aml:gb102 ≠ gb101));replace BK101:=z_ (zk BK101.out hb);clear hb hbox hg;have hnb15:=NB102_101.out;have hnc15:=NB101_102.out;obtain ⟨_,_,_,_,_,_,_,_⟩:=Rr BK102.out;obtain ⟨_,_,_,_,_,_,_,_⟩:=Rr BK101.out))
   go_ret
   exact ⟨by first|rfl|(simp [errW_none,errW_some] <;> rfl)|(simp only [← hji10,← hji11];first|rfl|(simp [errW_none,errW_some] <;> rfl))|(simp [*,errW_none,errW_some] <;> rfl),by repeat first|(with_reducible first|exact HB.out|apply zA|apply zN|apply z1|refine zS ?_ GE101.out|refine zS ?_ GE102.out)|exact HB.out⟩
  ·rw [if_neg c9] at H
   have c9b0:(a0_0 == 1) = false:=beq_eq_false_iff_ne.mpr c9
   have c9b1:(a0_0 != 1) = true:=bne_iff_ne.mpr c9
   by_cases c18:a0_0 = 2
   ·rw [if_pos c18] at H
    have c18b0:(a0_0 == 2) = true:=beq_iff_eq.mpr c18
    have c18b1:(a0_0 != 2) = false:=bne_eq_false_iff_eq.mpr c18
    clear c18
    obtain rfl:=Option.some.inj H
    go_enter Try.func95,Try.ntmps95
    go_wp2_with (first|((with_reducible refine gate_dst (N:=1) rfl ?_);refine box_event (by rfl) (N:=1) (by rfl) (cs:=#[.int .i64 a0_0, .int .i64 a0_1, .int .i64 a0_2, .string a0_3]) (t:=28) W3 ?_;intro gb101 hg w19 hbox hb;have BK101:=z_ (hbox);have GW101:=z_ ((W0:w.heap.size ≤ gb101));have GE101:=z_ ((W0:w.heap.size ≤ gb101));replace HB:=z_ (below_step W5 hb);clear hb hbox hg;obtain ⟨_,_,_,_,_,_,_,_⟩:=Rr BK101.out)|((with_reducible refine gate_dst (N:=3) rfl ?_);refine box_event (by rfl) (N:=3) (by rfl) (cs:=#[.int .i64 0, .int .i64 0, .int .i64 0, .string (⟨#[]⟩:ByteArray)]) (t:=28) W3 ?_;intro gb102 hg w21 hbox hb;have BK102:=z_ (hbox);have GW102:=z_ ((W6:w.heap.size ≤ gb102));have GE102:=z_ ((W6:w.heap.size ≤ gb102));replace HB:=z_ (below_step zp1 hb);have NB101_102:=z_ ((Amm:gb101 ≠ gb102));have NB102_101:=z_ ((Aml:gb102 ≠ gb101));replace BK101:=z_ (zk BK101.out hb);clear hb hbox hg;have hnb22:=NB102_101.out;have hnc22:=NB101_102.out;obtain ⟨_,_,_,_,_,_,_,_⟩:=Rr BK102.out;obtain ⟨_,_,_,_,_,_,_,_⟩:=Rr BK101.out))
    go_ret
    exact ⟨by first|rfl|(simp [errW_none,errW_some] <;> rfl)|(simp [*,errW_none,errW_some] <;> rfl),by repeat first|(with_reducible first|exact HB.out|apply zA|apply zN|apply z1|refine zS ?_ GE101.out|refine zS ?_ GE102.out)|exact HB.out⟩
   ·rw [if_neg c18] at H
    have c18b0:(a0_0 == 2) = false:=beq_eq_false_iff_ne.mpr c18
    have c18b1:(a0_0 != 2) = true:=bne_iff_ne.mpr c18
    by_cases c25:a0_0 = 3
    ·rw [if_pos c25] at H
     have c25b0:(a0_0 == 3) = true:=beq_iff_eq.mpr c25
     have c25b1:(a0_0 != 3) = false:=bne_eq_false_iff_eq.mpr c25
     clear c25
     obtain ⟨ji26,hji26⟩:∃ j_:Int,(mx a0_2 0) = j_:=⟨_,rfl⟩
     replace H:(if a0_1 ≤ (-1000000000000000) then (some false) else (if a0_1 ≥ 1000000000000000 then (some false) else (if a0_2 > 0 then (if (Int.tmod a0_1 10) = 0 then (some false) else (some (a0_2 == (mn (ji26) 6) && (a0_3.toList == ([]:List UInt8))))) else (some (a0_2 == (mn (ji26) 6) && (a0_3.toList == ([]:List UInt8))))))) = some r:=by first|(rw [hji26] at H;exact H)|(simp only [hji26] at H ⊢;exact H)
     (try (have hji26l:0 ≤ ji26:=by (rw [← hji26];unfold mx;(repeat' split) <;> omega)))
     (try (have hji26m:0 ≤ ji26:=by omega))
     have hji26_:(if a0_2 < 0 then 0 else a0_2) = ji26:=hji26
     obtain ⟨ji27,hji27⟩:∃ j_:Int,(mn (ji26) 6) = j_:=⟨_,rfl⟩
     replace H:(if a0_1 ≤ (-1000000000000000) then (some false) else (if a0_1 ≥ 1000000000000000 then (some false) else (if a0_2 > 0 then (if (Int.tmod a0_1 10) = 0 then (some false) else (some (a0_2 == (ji27) && (a0_3.toList == ([]:List UInt8))))) else (some (a0_2 == (ji27) && (a0_3.toList == ([]:List UInt8))))))) = some r:=by first|(rw [hji27] at H;exact H)|(simp only [hji27] at H ⊢;exact H)
     have hji27_:(if 6 < (ji26) then 6 else (ji26)) = ji27:=hji27
     by_cases c28:a0_1 ≤ (-1000000000000000)
     focus
      rw [if_pos c28] at H
      have c28b0:decide (a0_1 ≤ (-1000000000000000)) = true:=decide_eq_true c28
      clear c28
      obtain rfl:=Option.some.inj H
     rotate_left
     focus
      rw [if_neg c28] at H
      have c28b0:decide (a0_1 ≤ (-1000000000000000)) = false:=decide_eq_false c28
      clear c28
      by_cases c40:a0_1 ≥ 1000000000000000
      focus
       rw [if_pos c40] at H
       have c40b0:decide (1000000000000000 ≤ a0_1) = true:=decide_eq_true c40
       clear c40
       obtain rfl:=Option.some.inj H
      rotate_left
      focus
       rw [if_neg c40] at H
       have c40b0:decide (1000000000000000 ≤ a0_1) = false:=decide_eq_false c40
       clear c40
       by_cases c52:a0_2 > 0
       focus
        rw [if_pos c52] at H
        have c52b0:decide (0 < a0_2) = true:=decide_eq_true c52
        clear c52
        by_cases c53:(Int.tmod a0_1 10) = 0
        focus
         rw [if_pos c53] at H
         have c53b0:((Int.tmod a0_1 10) == 0) = true:=beq_iff_eq.mpr c53
         have c53b1:((Int.tmod a0_1 10) != 0) = false:=bne_eq_false_iff_eq.mpr c53
         clear c53
         obtain rfl:=Option.some.inj H
        rotate_left
        focus
         rw [if_neg c53] at H
         have c53b0:((Int.tmod a0_1 10) == 0) = false:=beq_eq_false_iff_ne.mpr c53
         have c53b1:((Int.tmod a0_1 10) != 0) = true:=bne_iff_ne.mpr c53
         obtain rfl:=Option.some.inj H
        rotate_left
       rotate_left 2
       focus
        rw [if_neg c52] at H
        have c52b0:decide (0 < a0_2) = false:=decide_eq_false c52
        clear c52
        obtain rfl:=Option.some.inj H
       rotate_left
      rotate_left 3
     rotate_left 4
     all_goals
      go_enter Try.func95,Try.ntmps95
      try go_wp2_with (first|((with_reducible refine gate_dst (N:=1) rfl ?_);refine box_event (by rfl) (N:=1) (by rfl) (cs:=#[.int .i64 a0_0, .int .i64 a0_1, .int .i64 a0_2, .string a0_3]) (t:=28) W3 ?_;intro gb101 hg w29 hbox hb;have BK101:=z_ (hbox);have GW101:=z_ ((W0:w.heap.size ≤ gb101));have GE101:=z_ ((W0:w.heap.size ≤ gb101));replace HB:=z_ (below_step W5 hb);clear hb hbox hg;obtain ⟨_,_,_,_,_,_,_,_⟩:=Rr BK101.out)|((with_reducible refine gate_dst (N:=3) rfl ?_);refine box_event (by rfl) (N:=3) (by rfl) (cs:=#[.int .i64 0, .int .i64 0, .int .i64 0, .string (⟨#[]⟩:ByteArray)]) (t:=28) W3 ?_;intro gb102 hg w31 hbox hb;have BK102:=z_ (hbox);have GW102:=z_ ((W6:w.heap.size ≤ gb102));have GE102:=z_ ((W6:w.heap.size ≤ gb102));replace HB:=z_ (below_step zp1 hb);have NB101_102:=z_ ((Amm:gb101 ≠ gb102));have NB102_101:=z_ ((Aml:gb102 ≠ gb101));replace BK101:=z_ (zk BK101.out hb);clear hb hbox hg;have hnb32:=NB102_101.out;have hnc32:=NB101_102.out;obtain ⟨_,_,_,_,_,_,_,_⟩:=Rr BK102.out;obtain ⟨_,_,_,_,_,_,_,_⟩:=Rr BK101.out))
      have n0_:Aside0 (((((w31.setCell ⟨gb102,0,none⟩ (.int .i64 a0_0)).setCell ⟨gb102,1,none⟩ (.int .i64 0)).setCell ⟨gb102,2,none⟩ (.int .i64 0)).setCell ⟨gb102,3,none⟩ (.string (⟨#[]⟩:ByteArray))).heap[gb101]? = some (.cells #[.int .i64 a0_0, .int .i64 a0_1, .int .i64 a0_2, .string a0_3] 28 (0,0))):=⟨by (with_reducible repeat first|apply Jx|apply A7|apply K0);refine S0 ?_ NB101_102.out _;(with_reducible repeat first|apply Jx|apply A7|apply K0);refine S0 ?_ NB101_102.out _;(with_reducible repeat first|apply Jx|apply A7|apply K0);refine S0 ?_ NB101_102.out _;(with_reducible repeat first|apply Jx|apply A7|apply K0);refine S0 ?_ NB101_102.out _;(with_reducible repeat first|apply Jx|apply A7|apply K0);exact BK101.out⟩
      have n1_:Aside0 (((((w31.setCell ⟨gb102,0,none⟩ (.int .i64 a0_0)).setCell ⟨gb102,1,none⟩ (.int .i64 0)).setCell ⟨gb102,2,none⟩ (.int .i64 0)).setCell ⟨gb102,3,none⟩ (.string (⟨#[]⟩:ByteArray))).heap[gb102]? = some (.cells #[.int .i64 a0_0, .int .i64 0, .int .i64 0, .string (⟨#[]⟩:ByteArray)] 28 (0,0))):=⟨by (with_reducible repeat first|apply Jx|apply A7|apply K0);refine Tt (cs:=#[.int .i64 a0_0, .int .i64 0, .int .i64 0, .string (⟨#[]⟩:ByteArray)]) ?_ 3 _ rfl;(with_reducible repeat first|apply Jx|apply A7|apply K0);refine Tt (cs:=#[.int .i64 a0_0, .int .i64 0, .int .i64 0, .string (⟨#[]⟩:ByteArray)]) ?_ 2 _ rfl;(with_reducible repeat first|apply Jx|apply A7|apply K0);refine Tt (cs:=#[.int .i64 a0_0, .int .i64 0, .int .i64 0, .string (⟨#[]⟩:ByteArray)]) ?_ 1 _ rfl;(with_reducible repeat first|apply Jx|apply A7|apply K0);refine Tt (cs:=#[.int .i64 0, .int .i64 0, .int .i64 0, .string (⟨#[]⟩:ByteArray)]) ?_ 0 _ rfl;(with_reducible repeat first|apply Jx|apply A7|apply K0);exact BK102.out⟩
      have n2_:Aside0 (Below w.heap.size w ((((w31.setCell ⟨gb102,0,none⟩ (.int .i64 a0_0)).setCell ⟨gb102,1,none⟩ (.int .i64 0)).setCell ⟨gb102,2,none⟩ (.int .i64 0)).setCell ⟨gb102,3,none⟩ (.string (⟨#[]⟩:ByteArray)))):=⟨by repeat first|(with_reducible first|exact HB.out|apply zA|apply zN|apply z1|refine zS ?_ GE101.out|refine zS ?_ GE102.out)|exact HB.out⟩
      (try clear BK101)
      (try clear BK102)
      (try clear HB)
      generalize ((((w31.setCell ⟨gb102,0,none⟩ (.int .i64 a0_0)).setCell ⟨gb102,1,none⟩ (.int .i64 0)).setCell ⟨gb102,2,none⟩ (.int .i64 0)).setCell ⟨gb102,3,none⟩ (.string (⟨#[]⟩:ByteArray))) = w35 at n0_ n1_ n2_ ⊢
      have BK101:=n0_
      have BK102:=n1_
      have HB:=n2_
      clear n0_ n1_ n2_
      have n0_:=z_ (A7 BK101.out)
      have n1_:=z_ (A7 BK102.out)
      have n2_:=z_ (z1 HB.out)
      clear BK101
      clear BK102
      clear HB
      have BK101:=n0_
      have BK102:=n1_
      have HB:=n2_
      clear n0_ n1_ n2_
      refine start_ (n:=10) (S:=fun w'=>w'.cell? ⟨gb101,0,none⟩ = some (.int .i64 a0_0) ∧ w'.cell? ⟨gb101,1,none⟩ = some (.int .i64 a0_1) ∧ w'.cell? ⟨gb101,2,none⟩ = some (.int .i64 a0_2) ∧ w'.cell? ⟨gb101,3,none⟩ = some (.string a0_3)) (ds:=[]) #[false,false,false,false,false,false,false,false,false,false] (by kernel_rfl) rfl rfl ⟨(Oi BK101.out 0).trans rfl,(Oi BK101.out 1).trans rfl,(Oi BK101.out 2).trans rfl,(Oi BK101.out 3).trans rfl⟩ (fun hHeld=>?_);refine with_tabW val_Right.tab10 val_Right.bits10 (fun HT_ HW_=>?_)
      generalize w35.drew = w36 at BK101 BK102 HB hHeld ⊢
      refine pure_ (i:=0) (N:=some 25) (v:=?_) (a':=?_) #[true,false,false,false,false,false,false,false,false,false] rfl rfl (any_of HT_.out (by kernel_rfl)) (fun _ _ _ h=>h) (Or.inl ⟨by rfl,?_⟩) ?_ ?_
      rotate_left
      ·intro w'
       go_simp
       with_reducible rfl
      rotate_left
      ·simp only [Act.put,List.setIfInBounds_toArray,List.set_cons_zero,List.set_cons_succ,i64_w,i32_w]
       rfl
      refine pure_ (i:=2) (N:=some 27) (v:=?_) (a':=?_) #[true,false,true,false,false,false,false,false,false,false] rfl rfl (any_of HT_.out (by kernel_rfl)) (fun _ _ _ h=>h) (Or.inl ⟨by rfl,?_⟩) ?_ ?_
      rotate_left
      ·intro w'
       go_simp
       with_reducible rfl
      rotate_left
      ·simp only [Act.put,List.setIfInBounds_toArray,List.set_cons_zero,List.set_cons_succ,i64_w,i32_w]
       rfl
      refine take_ (i:=1) (N:=some 26) (v:=?_) (a':=?_) #[true,true,true,false,false,false,false,false,false,false] rfl rfl (take_ofW HT_.out HW_.out (by kernel_rfl)) (fun _ _ _ h=>h) (Or.inl ⟨by rfl,?_⟩) hHeld ?_ ?_
      rotate_left
      ·rintro w' ⟨s0,s1,s2,s3⟩
       go_simp
       with_reducible rfl
      rotate_left
      ·simp only [Act.put,List.setIfInBounds_toArray,List.set_cons_zero,List.set_cons_succ,i64_w,i32_w]
       rfl
      refine pure_ (i:=6) (N:=some 31) (v:=?_) (a':=?_) #[true,true,true,false,false,false,true,false,false,false] rfl rfl (any_of HT_.out (by kernel_rfl)) (fun _ _ _ h=>h) (Or.inl ⟨by rfl,?_⟩) ?_ ?_
      rotate_left
      ·intro w'
       go_simp
       with_reducible rfl
      rotate_left
      ·simp only [Act.put,List.setIfInBounds_toArray,List.set_cons_zero,List.set_cons_succ,i64_w,i32_w]
       rfl
      refine take_ (i:=3) (N:=some 28) (v:=?_) (a':=?_) #[true,true,true,true,false,false,true,false,false,false] rfl rfl (take_ofW HT_.out HW_.out (by kernel_rfl)) (fun _ _ _ h=>h) (Or.inl ⟨by rfl,?_⟩) hHeld ?_ ?_
      rotate_left
      ·rintro w' ⟨s0,s1,s2,s3⟩
       go_simp
       with_reducible rfl
      rotate_left
      ·simp only [Act.put,List.setIfInBounds_toArray,List.set_cons_zero,List.set_cons_succ,i64_w,i32_w]
       rfl
      refine pure_ (i:=4) (N:=some 29) (v:=?_) (a':=?_) #[true,true,true,true,true,false,true,false,false,false] rfl rfl (any_of HT_.out (by kernel_rfl)) (fun _ _ _ h=>h) (Or.inl ⟨by rfl,?_⟩) ?_ ?_
      rotate_left
      ·intro w'
       go_simp
       with_reducible rfl
      rotate_left
      ·simp only [Act.put,List.setIfInBounds_toArray,List.set_cons_zero,List.set_cons_succ,i64_w,i32_w]
       rfl
      refine pure_ (i:=5) (N:=some 30) (v:=?_) (a':=?_) #[true,true,true,true,true,true,true,false,false,false] rfl rfl (any_of HT_.out (by kernel_rfl)) (fun _ _ _ h=>h) (Or.inl ⟨by rfl,?_⟩) ?_ ?_
      rotate_left
      ·intro w'
       go_simp
       with_reducible rfl
      rotate_left
      ·simp only [Act.put,List.setIfInBounds_toArray,List.set_cons_zero,List.set_cons_succ,i64_w,i32_w]
       rfl
      refine one_ (i:=7) (N:=none) #[true,true,true,true,true,true,true,true,false,false] rfl rfl (one_of HT_.out (by kernel_rfl)) (by decide) (fun K hK=>?_)
      have hs37:w36.cell? ⟨gb102,1,none⟩ = some (.int .i64 0):=(Oi BK102.out 1).trans rfl
      have hfs37:=S3 BK102.out 1
      have hns37_0:=NB101_102.out
      have hms37_0:=NB102_101.out
      refine skip_ (w1:=?_) (by rfl) rfl ?_ ?_
      rotate_left
      ·go_simp
       rfl
      refine hK.out _ _ ⟨((cell_far (p:=⟨gb102,_,none⟩) NB101_102.out _).trans (hHeld.1)),((cell_far (p:=⟨gb102,_,none⟩) NB101_102.out _).trans (hHeld.2.1)),((cell_far (p:=⟨gb102,_,none⟩) NB101_102.out _).trans (hHeld.2.2.1)),((cell_far (p:=⟨gb102,_,none⟩) NB101_102.out _).trans (hHeld.2.2.2))⟩ (fun hHeld=>?_)
      clear hK K
      refine pure_ (i:=8) (N:=some 32) (v:=?_) (a':=?_) #[true,true,true,true,true,true,true,true,true,false] rfl rfl (any_of HT_.out (by kernel_rfl)) (fun _ _ _ h=>h) (Or.inl ⟨by rfl,?_⟩) ?_ ?_
      rotate_left
      ·intro w'
       go_simp
       with_reducible rfl
      rotate_left
      ·simp only [Act.put,List.setIfInBounds_toArray,List.set_cons_zero,List.set_cons_succ,i64_w,i32_w]
       rfl
      refine one_ (i:=9) (N:=none) #[true,true,true,true,true,true,true,true,true,true] rfl rfl (one_of HT_.out (by kernel_rfl)) (by decide) (fun K hK=>?_)
      have hs38:w36.cell? ⟨gb102,2,none⟩ = some (.int .i64 0):=(Oi BK102.out 2).trans rfl
      have hfs38:=S3 BK102.out 2
      have hns38_0:=NB101_102.out
      have hms38_0:=NB102_101.out
      refine skip_ (w1:=?_) (by rfl) rfl ?_ ?_
      rotate_left
      ·go_simp
       rfl
      refine hK.out _ _ ⟨((cell_far (p:=⟨gb102,_,none⟩) NB101_102.out _).trans (hHeld.1)),((cell_far (p:=⟨gb102,_,none⟩) NB101_102.out _).trans (hHeld.2.1)),((cell_far (p:=⟨gb102,_,none⟩) NB101_102.out _).trans (hHeld.2.2.1)),((cell_far (p:=⟨gb102,_,none⟩) NB101_102.out _).trans (hHeld.2.2.2))⟩ (fun hHeld=>?_)
      clear hK K
      refine done_ (done_of HT_.out (by kernel_rfl)) ?_
      have hcz39_0:w36.cell? ⟨gb101,0,none⟩ = some (.int .i64 a0_0):=(Oi BK101.out 0).trans rfl
      have hcz39_1:w36.cell? ⟨gb101,1,none⟩ = some (.int .i64 a0_1):=(Oi BK101.out 1).trans rfl
      have hcz39_2:w36.cell? ⟨gb101,2,none⟩ = some (.int .i64 a0_2):=(Oi BK101.out 2).trans rfl
      have hcz39_3:w36.cell? ⟨gb101,3,none⟩ = some (.string a0_3):=(Oi BK101.out 3).trans rfl
      have hfz39_0:=S3 BK101.out 0
      have hfz39_1:=S3 BK101.out 1
      have hfz39_2:=S3 BK101.out 2
     ·have hfz39_3:=S3 BK101.out 3
      try go_wp2
      go_ret
      exact ⟨by first|rfl|(simp [errW_none,errW_some] <;> rfl)|(simp only [← hji26,← hji27];first|rfl|(simp [errW_none,errW_some] <;> rfl))|(simp [*,errW_none,errW_some] <;> rfl),by repeat first|(with_reducible first|exact HB.out|apply zA|apply zN|apply z1|refine zS ?_ GE101.out|refine zS ?_ GE102.out)|exact HB.out⟩
     ·have hfz39_3:=S3 BK101.out 3
      try go_wp2
      go_ret
      exact ⟨by first|rfl|(simp [errW_none,errW_some] <;> rfl)|(simp only [← hji26,← hji27];first|rfl|(simp [errW_none,errW_some] <;> rfl))|(simp [*,errW_none,errW_some] <;> rfl),by repeat first|(with_reducible first|exact HB.out|apply zA|apply zN|apply z1|refine zS ?_ GE101.out|refine zS ?_ GE102.out)|exact HB.out⟩
     ·have hfz39_3:=S3 BK101.out 3
      try go_wp2
      go_ret
      exact ⟨by first|rfl|(simp [errW_none,errW_some] <;> rfl)|(simp only [← hji26,← hji27];first|rfl|(simp [errW_none,errW_some] <;> rfl))|(simp [*,errW_none,errW_some] <;> rfl),by repeat first|(with_reducible first|exact HB.out|apply zA|apply zN|apply z1|refine zS ?_ GE101.out|refine zS ?_ GE102.out)|exact HB.out⟩
     ·have hfz39_3:=S3 BK101.out 3
      obtain ⟨_,_,_,_,_,_,_,_⟩:=Rr BK102.out
      try go_wp2
      go_ret
      exact ⟨by first|rfl|(simp [errW_none,errW_some] <;> rfl)|(simp only [← hji26,← hji27];first|rfl|(simp [errW_none,errW_some] <;> rfl))|(simp [*,errW_none,errW_some] <;> rfl),by repeat first|(with_reducible first|exact HB.out|apply zA|apply zN|apply z1|refine zS ?_ GE101.out|refine zS ?_ GE102.out)|exact HB.out⟩
     ·have hfz39_3:=S3 BK101.out 3
      obtain ⟨_,_,_,_,_,_,_,_⟩:=Rr BK102.out
      try go_wp2
      go_ret
      exact ⟨by first|rfl|(simp [errW_none,errW_some] <;> rfl)|(simp only [← hji26,← hji27];first|rfl|(simp [errW_none,errW_some] <;> rfl))|(simp [*,errW_none,errW_some] <;> rfl),by repeat first|(with_reducible first|exact HB.out|apply zA|apply zN|apply z1|refine zS ?_ GE101.out|refine zS ?_ GE102.out)|exact HB.out⟩
    ·rw [if_neg c25] at H
     have c25b0:(a0_0 == 3) = false:=beq_eq_false_iff_ne.mpr c25
     have c25b1:(a0_0 != 3) = true:=bne_iff_ne.mpr c25
     have HC89:=z_ H
     clear H
     go_enter Try.func95,Try.ntmps95
     go_upto_if 52 with (first|((with_reducible refine gate_dst (N:=1) rfl ?_);refine box_event (by rfl) (N:=1) (by rfl) (cs:=#[.int .i64 a0_0, .int .i64 a0_1, .int .i64 a0_2, .string a0_3]) (t:=28) W3 ?_;intro gb101 hg w90 hbox hb;have BK101:=z_ (hbox);have GW101:=z_ ((W0:w.heap.size ≤ gb101));have GE101:=z_ ((W0:w.heap.size ≤ gb101));replace HB:=z_ (below_step W5 hb);clear hb hbox hg;obtain ⟨_,_,_,_,_,_,_,_⟩:=Rr BK101.out)|((with_reducible refine gate_dst (N:=3) rfl ?_);refine box_event (by rfl) (N:=3) (by rfl) (cs:=#[.int .i64 0, .int .i64 0, .int .i64 0, .string (⟨#[]⟩:ByteArray)]) (t:=28) W3 ?_;intro gb102 hg w92 hbox hb;have BK102:=z_ (hbox);have GW102:=z_ ((W6:w.heap.size ≤ gb102));have GE102:=z_ ((W6:w.heap.size ≤ gb102));replace HB:=z_ (below_step zp1 hb);have NB101_102:=z_ ((Amm:gb101 ≠ gb102));have NB102_101:=z_ ((Aml:gb102 ≠ gb101));replace BK101:=z_ (zk BK101.out hb);clear hb hbox hg;have hnb93:=NB102_101.out;have hnc93:=NB101_102.out;obtain ⟨_,_,_,_,_,_,_,_⟩:=Rr BK102.out;obtain ⟨_,_,_,_,_,_,_,_⟩:=Rr BK101.out))
     (try simp only [Act.put,List.setIfInBounds_toArray,List.set_cons_zero,List.set_cons_succ])
     go_cut [52] (fun v52 wc=>∃ (kq:Nat) (x52_88:Bool),v52 = .bool x52_88 ∧ Aside0 (val_Right.j0 kq x52_88 a0_0 a0_1 a0_2 a0_3 a0_0 0 0 (⟨#[]⟩:ByteArray) = some r) ∧ Aside0 (kq ≤ k) ∧ Aside0 (wc.heap[gb101]? = some (.cells #[.int .i64 a0_0, .int .i64 a0_1, .int .i64 a0_2, .string a0_3] 28 (0,0))) ∧ Aside0 (wc.heap[gb102]? = some (.cells #[.int .i64 a0_0, .int .i64 0, .int .i64 0, .string (⟨#[]⟩:ByteArray)] 28 (0,0))) ∧ Aside0 (Below w.heap.size w wc))
     case first =>
      have H:=HC89.out
      clear HC89
      by_cases c96:a0_0 = 4
      ·rw [if_pos c96] at H
       have c96b0:(a0_0 == 4) = true:=beq_iff_eq.mpr c96
       have c96b1:(a0_0 != 4) = false:=bne_eq_false_iff_eq.mpr c96
       clear c96
       (first|rw [c96b0]|(simp only [i64_w,i32_w];rw [c96b0])|skip)
       have H':=z_ H
       clear H
       go_wp2
       go_meet
       case rel=>exact ⟨_,((a0_0 == 4)),Adz,(by first|with_reducible exact H'|(rw [hji27];exact H')|exact H'),⟨by first|omega|exact Nat.le_refl _⟩,⟨by (with_reducible repeat first|apply Jx|apply A7|apply K0);refine S0 ?_ NB101_102.out _;(with_reducible repeat first|apply Jx|apply A7|apply K0);refine S0 ?_ NB101_102.out _;(with_reducible repeat first|apply Jx|apply A7|apply K0);refine S0 ?_ NB101_102.out _;(with_reducible repeat first|apply Jx|apply A7|apply K0);refine S0 ?_ NB101_102.out _;(with_reducible repeat first|apply Jx|apply A7|apply K0);exact BK101.out⟩,⟨by (with_reducible repeat first|apply Jx|apply A7|apply K0);refine Tt (cs:=#[.int .i64 a0_0, .int .i64 0, .int .i64 0, .string (⟨#[]⟩:ByteArray)]) ?_ 3 _ rfl;(with_reducible repeat first|apply Jx|apply A7|apply K0);refine Tt (cs:=#[.int .i64 a0_0, .int .i64 0, .int .i64 0, .string (⟨#[]⟩:ByteArray)]) ?_ 2 _ rfl;(with_reducible repeat first|apply Jx|apply A7|apply K0);refine Tt (cs:=#[.int .i64 a0_0, .int .i64 0, .int .i64 0, .string (⟨#[]⟩:ByteArray)]) ?_ 1 _ rfl;(with_reducible repeat first|apply Jx|apply A7|apply K0);refine Tt (cs:=#[.int .i64 0, .int .i64 0, .int .i64 0, .string (⟨#[]⟩:ByteArray)]) ?_ 0 _ rfl;(with_reducible repeat first|apply Jx|apply A7|apply K0);exact BK102.out⟩,⟨by repeat first|(with_reducible first|exact HB.out|apply zA|apply zN|apply z1|refine zS ?_ GE101.out|refine zS ?_ GE102.out)|exact HB.out⟩⟩
      ·rw [if_neg c96] at H
       have c96b0:(a0_0 == 4) = false:=beq_eq_false_iff_ne.mpr c96
       have c96b1:(a0_0 != 4) = true:=bne_iff_ne.mpr c96
       (first|rw [c96b0]|(simp only [i64_w,i32_w];rw [c96b0])|skip)
       have H':=z_ H
       clear H
       go_wp2
       go_meet
       case rel=>exact ⟨_,((a0_0 == 5)),Adz,(by first|with_reducible exact H'|(rw [hji27];exact H')|exact H'),⟨by first|omega|exact Nat.le_refl _⟩,⟨by (with_reducible repeat first|apply Jx|apply A7|apply K0);refine S0 ?_ NB101_102.out _;(with_reducible repeat first|apply Jx|apply A7|apply K0);refine S0 ?_ NB101_102.out _;(with_reducible repeat first|apply Jx|apply A7|apply K0);refine S0 ?_ NB101_102.out _;(with_reducible repeat first|apply Jx|apply A7|apply K0);refine S0 ?_ NB101_102.out _;(with_reducible repeat first|apply Jx|apply A7|apply K0);exact BK101.out⟩,⟨by (with_reducible repeat first|apply Jx|apply A7|apply K0);refine Tt (cs:=#[.int .i64 a0_0, .int .i64 0, .int .i64 0, .string (⟨#[]⟩:ByteArray)]) ?_ 3 _ rfl;(with_reducible repeat first|apply Jx|apply A7|apply K0);refine Tt (cs:=#[.int .i64 a0_0, .int .i64 0, .int .i64 0, .string (⟨#[]⟩:ByteArray)]) ?_ 2 _ rfl;(with_reducible repeat first|apply Jx|apply A7|apply K0);refine Tt (cs:=#[.int .i64 a0_0, .int .i64 0, .int .i64 0, .string (⟨#[]⟩:ByteArray)]) ?_ 1 _ rfl;(with_reducible repeat first|apply Jx|apply A7|apply K0);refine Tt (cs:=#[.int .i64 0, .int .i64 0, .int .i64 0, .string (⟨#[]⟩:ByteArray)]) ?_ 0 _ rfl;(with_reducible repeat first|apply Jx|apply A7|apply K0);exact BK102.out⟩,⟨by repeat first|(with_reducible first|exact HB.out|apply zA|apply zN|apply z1|refine zS ?_ GE101.out|refine zS ?_ GE102.out)|exact HB.out⟩⟩
     case rest =>
      clear HC89
      try clear c2
      try clear p2
      try clear c4
      try clear c5
      try clear c6
      try clear c8
      try clear c9
      try clear c25
      try clear c25b0
      try clear c25b1
      try clear c28
      try clear c28b0
      try clear c40
      try clear c40b0
      try clear c44
      try clear c52
      try clear c52b0
      try clear c53
      try clear c53b0
      try clear c53b1
      try clear c57
      try clear c68
      try clear c80
      try clear c93
      try clear c95
      try clear c96
      try clear c96b0
      try clear c96b1
      try clear hcz39_0
      try clear hcz39_1
      try clear hcz39_2
      try clear hcz39_3
      try clear hcz42_0
      try clear hcz42_1
      try clear hcz42_2
      try clear hcz42_3
      try clear hcz45_0
      try clear hcz45_1
      try clear hcz45_2
      try clear hcz45_3
      try clear hcz46_0
      try clear hcz46_1
      try clear hcz46_2
      try clear hcz46_3
      try clear hcz51_0
      try clear hcz51_1
      try clear hcz51_2
      try clear hcz51_3
      try clear hcz55_0
      try clear hcz55_1
      try clear hcz55_2
      try clear hcz55_3
      try clear hcz58_0
      try clear hcz58_1
      try clear hcz58_2
      try clear hcz58_3
      try clear hcz59_0
      try clear hcz59_1
      try clear hcz59_2
      try clear hcz59_3
      try clear hcz64_0
      try clear hcz64_1
      try clear hcz64_2
      try clear hcz64_3
      try clear hcz66_0
      try clear hcz66_1
      try clear hcz66_2
      try clear hcz66_3
      try clear hcz69_0
      try clear hcz69_1
      try clear hcz69_2
      try clear hcz69_3
      try clear hcz70_0
      try clear hcz70_1
      try clear hcz70_2
      try clear hcz70_3
      try clear hcz75_0
      try clear hcz75_1
      try clear hcz75_2
      try clear hcz75_3
      try clear hcz76_0
      try clear hcz76_1
      try clear hcz76_2
      try clear hcz76_3
      try clear hcz78_0
      try clear hcz78_1
      try clear hcz78_2
      try clear hcz78_3
      try clear hcz81_0
      try clear hcz81_1
      try clear hcz81_2
      try clear hcz81_3
      try clear hcz82_0
      try clear hcz82_1
      try clear hcz82_2
      try clear hcz82_3
      try clear hcz87_0
      try clear hcz87_1
      try clear hcz87_2
      try clear hcz87_3
      try clear hcz88_0
      try clear hcz88_1
      try clear hcz88_2
      try clear hcz88_3
      try clear hcz91_0
      try clear hcz91_1
      try clear hcz91_2
      try clear hcz91_3
      try clear hcz94_0
      try clear hcz94_1
      try clear hcz94_2
      try clear hcz94_3
      try clear hcz95_0
      try clear hcz95_1
      try clear hcz95_2
      try clear hcz95_3
      try clear hfz39_0
      try clear hfz39_1
      try clear hfz39_2
      try clear hfz39_3
      try clear hfz42_0
      try clear hfz42_1
      try clear hfz42_2
      try clear hfz42_3
      try clear hfz45_0
      try clear hfz45_1
      try clear hfz45_2
      try clear hfz45_3
      try clear hfz46_0
      try clear hfz46_1
      try clear hfz46_2
      try clear hfz46_3
      try clear hfz51_0
      try clear hfz51_1
      try clear hfz51_2
      try clear hfz51_3
      try clear hfz55_0
      try clear hfz55_1
      try clear hfz55_2
      try clear hfz55_3
      try clear hfz58_0
      try clear hfz58_1
      try clear hfz58_2
      try clear hfz58_3
      try clear hfz59_0
      try clear hfz59_1
      try clear hfz59_2
      try clear hfz59_3
      try clear hfz64_0
      try clear hfz64_1
      try clear hfz64_2
      try clear hfz64_3
      try clear hfz66_0
      try clear hfz66_1
      try clear hfz66_2
      try clear hfz66_3
      try clear hfz69_0
      try clear hfz69_1
      try clear hfz69_2
      try clear hfz69_3
      try clear hfz70_0
      try clear hfz70_1
      try clear hfz70_2
      try clear hfz70_3
      try clear hfz75_0
      try clear hfz75_1
      try clear hfz75_2
      try clear hfz75_3
      try clear hfz76_0
      try clear hfz76_1
      try clear hfz76_2
      try clear hfz76_3
      try clear hfz78_0
      try clear hfz78_1
      try clear hfz78_2
      try clear hfz78_3
      try clear hfz81_0
      try clear hfz81_1
      try clear hfz81_2
      try clear hfz81_3
      try clear hfz82_0
      try clear hfz82_1
      try clear hfz82_2
      try clear hfz82_3
      try clear hfz87_0
      try clear hfz87_1
      try clear hfz87_2
      try clear hfz87_3
      try clear hfz88_0
      try clear hfz88_1
      try clear hfz88_2
      try clear hfz88_3
      try clear hfz91_0
      try clear hfz91_1
      try clear hfz91_2
      try clear hfz91_3
      try clear hfz94_0
      try clear hfz94_1
      try clear hfz94_2
      try clear hfz94_3
      try clear hfz95_0
      try clear hfz95_1
      try clear hfz95_2
      try clear hfz95_3
      obtain ⟨kq,x52_88,rfl,HA,HJ88,BK101,BK102,HB⟩:=hcut
      cases kq with
      | zero=>exact absurd HA.out (by simp [val_Right.j0])
      | succ kj88 =>
       have H:=HA.out
       clear HA
       simp only [val_Right.j0] at H
       by_cases c97:x52_88 = true
       ·subst c97
        have H1:(if (a0_3.size:Int) > 40 then (some false) else (if a0_0 = 4 then ((val_printable.f kj88 a0_3).bind fun t103=>(if t103 = true then (some (a0_0 == a0_0 && (a0_1 == 0 && (a0_2 == 0)))) else (some false))) else (some (a0_0 == a0_0 && (a0_1 == 0 && (a0_2 == 0)))))) = some r:=by rw [if_pos rfl] at H;exact H
        clear H
        have H:=H1
        clear H1
        by_cases c98:(a0_3.size:Int) > 40
        ·rw [if_pos c98] at H
         have c98b0:decide (40 < (a0_3.size:Int)) = true:=decide_eq_true c98
         have c98b1:decide (40 < a0_3.size) = true:=decide_eq_true (by omega)
         clear c98
         obtain rfl:=Option.some.inj H
         have hnb99:=NB101_102.out
         have hnc99:=NB102_101.out
         obtain ⟨_,_,_,_,_,_,_,_⟩:=Rr BK101.out
         obtain ⟨_,_,_,_,_,_,_,_⟩:=Rr BK102.out
         go_wp2
         go_ret
         exact ⟨by first|rfl|(simp [errW_none,errW_some] <;> rfl)|(simp [*,errW_none,errW_some] <;> rfl),by repeat first|(with_reducible first|exact HB.out|apply zA|apply zN|apply z1|refine zS ?_ GE101.out|refine zS ?_ GE102.out)|exact HB.out⟩
        ·rw [if_neg c98] at H
         have c98b0:decide (40 < (a0_3.size:Int)) = false:=decide_eq_false c98
         have c98b1:decide (40 < a0_3.size) = false:=decide_eq_false (by omega)
         clear c98
         by_cases c102:a0_0 = 4
         ·rw [if_pos c102] at H
          have c102b0:(a0_0 == 4) = true:=beq_iff_eq.mpr c102
          have c102b1:(a0_0 != 4) = false:=bne_eq_false_iff_eq.mpr c102
          clear c102
          replace H:=Option.bind_eq_some_iff.mp H
          obtain ⟨t103,A1030,H⟩:=H
          replace H:(if t103 = true then (some (a0_0 == a0_0 && (a0_1 == 0 && (a0_2 == 0)))) else (some false)) = some r:=H
          have A103:=z_ A1030
          clear A1030
          by_cases c104:t103 = true
          ·subst c104
           have H1:(some (a0_0 == a0_0 && (a0_1 == 0 && (a0_2 == 0)))) = some r:=by rw [if_pos rfl] at H;exact H
           clear H
           have H:=H1
           clear H1
           obtain rfl:=Option.some.inj H
           have hnb105:=NB101_102.out
           have hnc105:=NB102_101.out
           obtain ⟨_,_,_,_,_,_,_,_⟩:=Rr BK101.out
           obtain ⟨_,_,_,_,_,_,_,_⟩:=Rr BK102.out
           go_wp2_with (first|(go_at_call 102;(with_reducible refine (val_printable.calls kj88 a0_3 true _ A103.out).mono ?_);rintro e w' ⟨rfl,⟨nd,rfl⟩⟩))
           go_ret
           exact ⟨by first|rfl|(simp [errW_none,errW_some] <;> rfl)|(simp [*,errW_none,errW_some] <;> rfl),by repeat first|(with_reducible first|exact HB.out|apply zA|apply zN|apply z1|refine zS ?_ GE101.out|refine zS ?_ GE102.out)|exact HB.out⟩
          ·replace c104:=Bool.eq_false_iff.mpr c104
           subst c104
           have H1:(some false) = some r:=by rw [if_neg (show ¬ (false = true) by decide)] at H;exact H
           clear H
           have H:=H1
           clear H1
           obtain rfl:=Option.some.inj H
           have hnb108:=NB101_102.out
           have hnc108:=NB102_101.out
           obtain ⟨_,_,_,_,_,_,_,_⟩:=Rr BK101.out
           obtain ⟨_,_,_,_,_,_,_,_⟩:=Rr BK102.out
           go_wp2_with (first|(go_at_call 102;(with_reducible refine (val_printable.calls kj88 a0_3 false _ A103.out).mono ?_);rintro e w' ⟨rfl,⟨nd,rfl⟩⟩))
           go_ret
           exact ⟨by first|rfl|(simp [errW_none,errW_some] <;> rfl)|(simp [*,errW_none,errW_some] <;> rfl),by repeat first|(with_reducible first|exact HB.out|apply zA|apply zN|apply z1|refine zS ?_ GE101.out|refine zS ?_ GE102.out)|exact HB.out⟩
         ·rw [if_neg c102] at H
          have c102b0:(a0_0 == 4) = false:=beq_eq_false_iff_ne.mpr c102
          have c102b1:(a0_0 != 4) = true:=bne_iff_ne.mpr c102
          obtain rfl:=Option.some.inj H
          have hnb111:=NB101_102.out
          have hnc111:=NB102_101.out
          obtain ⟨_,_,_,_,_,_,_,_⟩:=Rr BK101.out
          obtain ⟨_,_,_,_,_,_,_,_⟩:=Rr BK102.out
          go_wp2
          go_ret
          exact ⟨by first|rfl|(simp [errW_none,errW_some] <;> rfl)|(simp [*,errW_none,errW_some] <;> rfl),by repeat first|(with_reducible first|exact HB.out|apply zA|apply zN|apply z1|refine zS ?_ GE101.out|refine zS ?_ GE102.out)|exact HB.out⟩
       ·replace c97:=Bool.eq_false_iff.mpr c97
        subst c97
        have H1:(some false) = some r:=by rw [if_neg (show ¬ (false = true) by decide)] at H;exact H
        clear H
        have H:=H1
        clear H1
        obtain rfl:=Option.some.inj H
        go_wp2
        go_ret
        exact ⟨by first|rfl|(simp [errW_none,errW_some] <;> rfl)|(simp [*,errW_none,errW_some] <;> rfl),by repeat first|(with_reducible first|exact HB.out|apply zA|apply zN|apply z1|refine zS ?_ GE101.out|refine zS ?_ GE102.out)|exact HB.out⟩
end Go.Proofs.Ytglffgneikoeaaa.M
namespace Go.Proofs.Ytglffgneikoeaaa.M
open Go.RowKit Go.Proofs.YtglffgneikoeaaaW.PrintWords Go.Proofs.YtglffgneikoeaaaW.PrintLast Go.Proofs.YtglffgneikoeaaaW.PrintMore
attribute [local go_sem] max2_int min2_int max_two min_two max_three min_three max_four min_four
attribute [local go_sem high] own_gtr own_leq own_geq own_cell_set Option.map_some
set_option linter.unusedVariables false
set_option linter.unusedSimpArgs false
def okB (st:ByteArray):Bool:=st.data.toList.all fun b=>decide (32≤b.toNat∧b.toNat≤126)
theorem bt_data (st:ByteArray) (i:Nat) (h:i < st.data.size):bt st (i:Int)=((st.data[i]).toNat:Int):=by
 rw [← bt_at st (i:Int) (by simpa using h)]
 rfl
theorem all_drop (st:ByteArray) (i:Nat) (h:i < st.data.size):(st.data.toList.drop i).all (fun b=>decide (32≤b.toNat∧b.toNat≤126))=(decide (32≤(st.data[i]).toNat∧(st.data[i]).toNat≤126)&&(st.data.toList.drop (i+1)).all fun b=>decide (32≤b.toNat∧b.toNat≤126)):=by
 rw [List.drop_eq_getElem_cons (by simpa using h),List.all_cons]
 simp
theorem val_printable_l0 (st:ByteArray) (hs:st.data.size≤140737488351232):∀ (d k i:Nat),d < k→i+d=st.data.size→val_printable.l0 k st (i:Int)=some ((st.data.toList.drop i).all fun b=>decide (32≤b.toNat∧b.toNat≤126))
 | 0,k,i,hk,h=>by
  obtain ⟨k,rfl⟩:∃ m,k=m+1:=⟨k - 1,by omega⟩
  simp only [val_printable.l0];rw [if_neg (by have hz:st.size=st.data.size:=rfl;omega),List.drop_of_length_le (by have hz:st.data.toList.length=st.data.size:=rfl;omega)];rfl
 | d+1,k,i,hk,h=>by
  obtain ⟨k,rfl⟩:∃ m,k=m+1:=⟨k - 1,by omega⟩
  simp only [val_printable.l0]
  rw [if_pos (by have hz:st.size=st.data.size:=rfl;omega),if_pos (by omega),bt_data st i (by omega),all_drop st i (by omega)]
  by_cases h1:((st.data[i]'(by omega)).toNat:Int) < 32
  ·rw [if_pos h1,decide_eq_false (by omega)];rfl
  ·rw [if_neg h1]
   by_cases h2:((st.data[i]'(by omega)).toNat:Int) > 126
   ·rw [if_pos h2,decide_eq_false (by omega)];rfl
   ·rw [if_neg h2,decide_eq_true (by omega),wrap64_of (by omega) (by omega),Bool.true_and]
    exact val_printable_l0 st hs d k (i+1) (by omega) (by omega)
theorem val_printable_eq (st:ByteArray) (k:Nat) (hs:st.data.size≤140737488351232) (hk:st.data.size < k):val_printable.f k st=some (okB st):=val_printable_l0 st hs st.data.size k 0 hk (by omega)
theorem A49 (st:ByteArray) (hs:st.data.size≤140737488351232):∀ (d k i:Nat),d < k→i+d=st.data.size→Ams.l0 k st (i:Int)=some ((st.data.toList.drop i).all fun b=>decide (32≤b.toNat∧b.toNat≤126))
 | 0,k,i,hk,h=>by
  obtain ⟨k,rfl⟩:∃ m,k=m+1:=⟨k - 1,by omega⟩
  simp only [Ams.l0];rw [if_neg (by have hz:st.size=st.data.size:=rfl;omega),List.drop_of_length_le (by have hz:st.data.toList.length=st.data.size:=rfl;omega)];rfl
 | d+1,k,i,hk,h=>by
  obtain ⟨k,rfl⟩:∃ m,k=m+1:=⟨k - 1,by omega⟩
  simp only [Ams.l0]
  rw [if_pos (by have hz:st.size=st.data.size:=rfl;omega),if_pos (by omega),bt_data st i (by omega),all_drop st i (by omega)]
  by_cases h1:((st.data[i]'(by omega)).toNat:Int) < 32
  ·rw [if_pos h1,decide_eq_false (by omega)];rfl
  ·rw [if_neg h1]
   by_cases h2:((st.data[i]'(by omega)).toNat:Int) > 126
   ·rw [if_pos h2,decide_eq_false (by omega)];rfl
   ·rw [if_neg h2,decide_eq_true (by omega),wrap64_of (by omega) (by omega),Bool.true_and]
    exact A49 st hs d k (i+1) (by omega) (by omega)
theorem A7e (st:ByteArray) (k:Nat) (hs:st.data.size≤140737488351232) (hk:st.data.size < k):Ams.f k st=some (okB st):=A49 st hs st.data.size k 0 hk (by omega)
def noS (st:ByteArray):Bool:=st.toList==([]:List UInt8)
def rightB (kd n sc:Int) (st:ByteArray):Bool :=
 if kd=0 then n==0&&(sc==0&&noS st)
 else if kd=1 then decide (0≤n∧n≤1)&&(sc==0&&noS st)
 else if kd=2 then sc==0&&noS st
 else if kd=3 then decide (-1000000000000000 < n∧n < 1000000000000000∧0≤sc∧sc≤6∧(sc=0∨n % 10≠0))&&noS st
 else if kd=4 then decide (n=0∧sc=0∧st.data.size≤40)&&okB st
 else if kd=5 then decide (n=0∧sc=0∧st.data.size≤40)
 else false
theorem val_Right_eq (k:Nat) (kd n sc:Int) (st:ByteArray) (hk:42 < k):val_Right.f k kd n sc st=some (rightB kd n sc st):=by
 obtain ⟨k,rfl⟩:∃ m,k=m+1:=⟨k - 1,by omega⟩
 have hz:(st.size:Int)=(st.data.size:Int):=rfl
 unfold val_Right.f rightB
 by_cases h0:kd=0
 ·rw [if_pos h0,if_pos h0];rfl
 rw [if_neg h0,if_neg h0]
 by_cases h1:kd=1
 ·rw [if_pos h1,if_pos h1]
  congr 2
  rw [Bool.eq_iff_iff];simp only [beq_iff_eq,decide_eq_true_eq];unfold mn mx
  constructor
  ·intro h;split at h<;>(try split at h)<;>omega
  ·intro h;split<;>(try split)<;>omega
 rw [if_neg h1,if_neg h1]
 by_cases h2:kd=2
 ·rw [if_pos h2,if_pos h2];rfl
 rw [if_neg h2,if_neg h2]
 by_cases h3:kd=3
 ·rw [if_pos h3,if_pos h3]
  have ht:=tmod10 n
  by_cases a1:n≤-1000000000000000
  ·rw [if_pos a1,decide_eq_false (by omega)];rfl
  rw [if_neg a1]
  by_cases a2:n≥1000000000000000
  ·rw [if_pos a2,decide_eq_false (by omega)];rfl
  rw [if_neg a2]
  have hm:(sc==mn (mx sc 0) 6)=decide (0≤sc∧sc≤6):=by
   rw [Bool.eq_iff_iff];simp only [beq_iff_eq,decide_eq_true_eq];unfold mn mx
   constructor
   ·intro h;split at h<;>(try split at h)<;>omega
   ·intro h;split<;>(try split)<;>omega
  by_cases a3:sc > 0
  ·rw [if_pos a3]
   by_cases a4:Int.tmod n 10=0
   ·rw [if_pos a4,decide_eq_false (by have:=ht.1 a4;omega)];rfl
   ·rw [if_neg a4,hm]
    have:n % 10≠0:=fun e=>a4 (ht.2 e)
    by_cases a5:sc≤6
    ·rw [decide_eq_true (by omega),decide_eq_true (by omega)];rfl
    ·rw [decide_eq_false (by omega),decide_eq_false (by omega)];rfl
  ·rw [if_neg a3,hm]
   by_cases a5:0≤sc
   ·rw [decide_eq_true (by omega),decide_eq_true (by omega)];rfl
   ·rw [decide_eq_false (by omega),decide_eq_false (by omega)];rfl
 rw [if_neg h3,if_neg h3]
 by_cases h4:kd=4
 ·rw [if_pos h4,if_pos h4]
  subst h4
  simp only [val_Right.j0,beq_self_eq_true,if_true,Bool.true_and]
  by_cases a1:(st.size:Int) > 40
  ·rw [if_pos a1,decide_eq_false (by omega)];rfl
  ·rw [if_neg a1,val_printable_eq st k (by omega) (by omega)]
   simp only [Option.bind_some]
   cases hb:okB st with
   | false=>simp
   | true =>
    simp only [if_true,Bool.and_true]
    congr 1
    rw [Bool.eq_iff_iff];simp only [Bool.and_eq_true,beq_iff_eq,decide_eq_true_eq];omega
 rw [if_neg h4,if_neg h4]
 by_cases h5:kd=5
 ·rw [if_pos h5]
  subst h5
  simp only [val_Right.j0,beq_self_eq_true,if_true,Bool.true_and]
  by_cases a1:(st.size:Int) > 40
  ·rw [if_pos a1,decide_eq_false (by omega)]
  ·rw [if_neg a1,if_neg (by decide)]
   congr 1
   rw [Bool.eq_iff_iff];simp only [Bool.and_eq_true,beq_iff_eq,decide_eq_true_eq];omega
 ·rw [if_neg h5]
  simp only [val_Right.j0,show (kd==5)=false from by simpa using h5]
  simp
theorem A47 (k:Nat) (kd n sc:Int) (st:ByteArray) (hk:42 < k):Amj.f k kd n sc st=some (rightB kd n sc st):=by
 have hz:(st.size:Int)=(st.data.size:Int):=rfl
 unfold Amj.f rightB
 by_cases h0:kd=0
 ·rw [if_pos h0,if_pos h0];subst h0;simp [noS]
 rw [if_neg h0,if_neg h0]
 by_cases h1:kd=1
 ·rw [if_pos h1,if_pos h1]
  by_cases a1:n≥0
  ·rw [if_pos a1]
   by_cases a2:n≤1
   ·rw [if_pos a2,decide_eq_true (by omega)]
    by_cases a3:sc=0
    ·rw [if_pos a3];subst a3;simp [noS]
    ·rw [if_neg a3];simp [a3]
   ·rw [if_neg a2,decide_eq_false (by omega)];rfl
  ·rw [if_neg a1,decide_eq_false (by omega)];rfl
 rw [if_neg h1,if_neg h1]
 by_cases h2:kd=2
 ·rw [if_pos h2,if_pos h2]
  by_cases a3:sc=0
  ·rw [if_pos a3];subst a3;simp [noS]
  ·rw [if_neg a3];simp [a3]
 rw [if_neg h2,if_neg h2]
 by_cases h3:kd=3
 ·rw [if_pos h3,if_pos h3]
  have ht:=tmod10 n
  by_cases a1:n > -1000000000000000
  ·rw [if_pos a1]
   by_cases a2:n < 1000000000000000
   ·rw [if_pos a2]
    by_cases a3:sc≥0
    ·rw [if_pos a3]
     by_cases a4:sc≤6
     ·rw [if_pos a4]
      by_cases a5:sc=0
      ·rw [if_pos a5,decide_eq_true (by omega)];rfl
      ·rw [if_neg a5]
       by_cases a6:Int.tmod n 10=0
       ·rw [if_pos a6,decide_eq_false (by have:=ht.1 a6;omega)];rfl
       ·have:n % 10≠0:=fun e=>a6 (ht.2 e)
        rw [if_neg a6,decide_eq_true (by omega)];rfl
     ·rw [if_neg a4,decide_eq_false (by omega)];rfl
    ·rw [if_neg a3,decide_eq_false (by omega)];rfl
   ·rw [if_neg a2,decide_eq_false (by omega)];rfl
  ·rw [if_neg a1,decide_eq_false (by omega)];rfl
 rw [if_neg h3,if_neg h3]
 by_cases h4:kd=4
 ·rw [if_pos h4,if_pos h4]
  by_cases a1:n=0
  ·rw [if_pos a1]
   by_cases a2:sc=0
   ·rw [if_pos a2]
    by_cases a3:(st.size:Int)≤40
    ·rw [if_pos a3,A7e st k (by omega) (by omega),decide_eq_true (by omega)];rfl
    ·rw [if_neg a3,decide_eq_false (by omega)];rfl
   ·rw [if_neg a2,decide_eq_false (by omega)];rfl
  ·rw [if_neg a1,decide_eq_false (by omega)];rfl
 rw [if_neg h4,if_neg h4]
 by_cases h5:kd=5
 ·rw [if_pos h5,if_pos h5]
  by_cases a1:n=0
  ·rw [if_pos a1]
   by_cases a2:sc=0
   ·rw [if_pos a2]
    congr 1
    rw [Bool.eq_iff_iff];simp only [decide_eq_true_eq];omega
   ·rw [if_neg a2,decide_eq_false (by omega)]
  ·rw [if_neg a1,decide_eq_false (by omega)]
 ·rw [if_neg h5,if_neg h5]
end Go.Proofs.Ytglffgneikoeaaa.M
namespace Go.Proofs.Ytglffgneikoeaaa.M
open Go.RowKit Go.Proofs.YtglffgneikoeaaaW.PrintWords Go.Proofs.YtglffgneikoeaaaW.PrintLast Go.Proofs.YtglffgneikoeaaaW.PrintMore
attribute [local go_sem] max2_int min2_int max_two min_two max_three min_three max_four min_four
attribute [local go_sem high] own_gtr own_leq own_geq own_cell_set Option.map_some
set_option linter.unusedVariables false
set_option linter.unusedSimpArgs false
def A2c.f (a0:Int) (a1:Int):Option (Int × Bool):=if a0 = 0 then (some (0,true)) else (if a1 = 0 then (some (0,true)) else (some (wrap64 (a0 * a1),((wrap64 (Int.tdiv (wrap64 (a0 * a1)) a1)) == a0))))
set_option maxHeartbeats 8000000 in
set_option maxRecDepth 100000 in
theorem A2c.calls (a0:Int) (a1:Int) (r1:Int) (r2:Bool) (w:World) (h:A2c.f a0 a1 = some (r1,r2)) :
  Calls Try.prog 100 #[.int .i64 a0, .int .i64 a1] w fun e w'=>e = .returned (.tuple #[.int .i64 r1, .bool r2]) ∧ Drawn0 w w':=by
 have H:(if a0 = 0 then (some (0,true)) else (if a1 = 0 then (some (0,true)) else (some (wrap64 (a0 * a1),((wrap64 (Int.tdiv (wrap64 (a0 * a1)) a1)) == a0))))) = some (r1,r2):=h
 clear h
 by_cases c3:a0 = 0
 ·rw [if_pos c3] at H
  have c3b0:(a0 == 0) = true:=beq_iff_eq.mpr c3
  have c3b1:(a0 != 0) = false:=bne_eq_false_iff_eq.mpr c3
  clear c3
  simp only [Option.some.injEq,Prod.mk.injEq] at H
  obtain ⟨rfl,rfl⟩:=H
  go_enter Try.func100,Try.ntmps100
  go_wp2
  repeat (go_quiet (fail);try go_wp2)
  go_ret2
  exact ⟨by first|rfl|(simp;done)|(simp [*];done),by repeat (first|exact Drawn0.refl _|apply Drawn0.step)⟩
 ·rw [if_neg c3] at H
  have c3b0:(a0 == 0) = false:=beq_eq_false_iff_ne.mpr c3
  have c3b1:(a0 != 0) = true:=bne_iff_ne.mpr c3
  by_cases c4:a1 = 0
  ·rw [if_pos c4] at H
   have c4b0:(a1 == 0) = true:=beq_iff_eq.mpr c4
   have c4b1:(a1 != 0) = false:=bne_eq_false_iff_eq.mpr c4
   clear c4
   simp only [Option.some.injEq,Prod.mk.injEq] at H
   obtain ⟨rfl,rfl⟩:=H
   go_enter Try.func100,Try.ntmps100
   go_wp2
   repeat (go_quiet (fail);try go_wp2)
   go_ret2
   exact ⟨by first|rfl|(simp;done)|(simp [*];done),by repeat (first|exact Drawn0.refl _|apply Drawn0.step)⟩
  ·rw [if_neg c4] at H
   have c4b0:(a1 == 0) = false:=beq_eq_false_iff_ne.mpr c4
   have c4b1:(a1 != 0) = true:=bne_iff_ne.mpr c4
   simp only [Option.some.injEq,Prod.mk.injEq] at H
   obtain ⟨rfl,rfl⟩:=H
   go_enter Try.func100,Try.ntmps100
   go_wp2
   repeat (go_quiet (fail);try go_wp2)
   go_ret2
   exact ⟨by first|rfl|(simp;done)|(simp [*];done),by repeat (first|exact Drawn0.refl _|apply Drawn0.step)⟩
end Go.Proofs.Ytglffgneikoeaaa.M
namespace Go.Proofs.Ytglffgneikoeaaa.M
open Go.RowKit Go.Proofs.YtglffgneikoeaaaW.PrintWords Go.Proofs.YtglffgneikoeaaaW.PrintLast Go.Proofs.YtglffgneikoeaaaW.PrintMore
attribute [local go_sem] max2_int min2_int max_two min_two max_three min_three max_four min_four
attribute [local go_sem high] own_gtr own_leq own_geq own_cell_set Option.map_some
set_option linter.unusedVariables false
set_option linter.unusedSimpArgs false
def A2d.f (a0:Int) (a1:Int):Option (Int × Bool):=if ((decide (a0 < 0)) != (decide (a1 < 0))) = true then (some (wrap64 (a0 + a1),true)) else (some (wrap64 (a0 + a1),((decide ((wrap64 (a0 + a1)) < 0)) == (decide (a0 < 0)))))
set_option maxHeartbeats 8000000 in
set_option maxRecDepth 100000 in
theorem A2d.calls (a0:Int) (a1:Int) (r1:Int) (r2:Bool) (w:World) (h:A2d.f a0 a1 = some (r1,r2)) :
  Calls Try.prog 101 #[.int .i64 a0, .int .i64 a1] w fun e w'=>e = .returned (.tuple #[.int .i64 r1, .bool r2]) ∧ Drawn0 w w':=by
 have H:(if ((decide (a0 < 0)) != (decide (a1 < 0))) = true then (some (wrap64 (a0 + a1),true)) else (some (wrap64 (a0 + a1),((decide ((wrap64 (a0 + a1)) < 0)) == (decide (a0 < 0)))))) = some (r1,r2):=h
 clear h
 by_cases c3:((decide (a0 < 0)) != (decide (a1 < 0))) = true
 ·rw [if_pos c3] at H
  have c3b0:((decide (a0 < 0)) != (decide (a1 < 0))) = true:=c3
  (try (have c3b1:decide ((decide (a0 < 0)) = (decide (a1 < 0))) = false:=by simpa using c3))
  (try (have c3b2:((decide (a0 < 0)) == (decide (a1 < 0))) = false:=by simpa using c3))
  (try (have c3b3:¬ ((decide (a0 < 0)) = (decide (a1 < 0))):=by simpa using c3))
  clear c3
  simp only [Option.some.injEq,Prod.mk.injEq] at H
  obtain ⟨rfl,rfl⟩:=H
  go_enter Try.func101,Try.ntmps101
  go_wp2
  go_ret2
  exact ⟨by first|rfl|(simp;done)|(simp [*];done),by repeat (first|exact Drawn0.refl _|apply Drawn0.step)⟩
 ·rw [if_neg c3] at H
  have c3b0:((decide (a0 < 0)) != (decide (a1 < 0))) = false:=by simpa using c3
  (try (have c3b1:decide ((decide (a0 < 0)) = (decide (a1 < 0))) = true:=by simpa using c3))
  (try (have c3b2:((decide (a0 < 0)) == (decide (a1 < 0))) = true:=by simpa using c3))
  clear c3
  simp only [Option.some.injEq,Prod.mk.injEq] at H
  obtain ⟨rfl,rfl⟩:=H
  go_enter Try.func101,Try.ntmps101
  go_wp2
  go_ret2
  exact ⟨by first|rfl|(simp;done)|(simp [*];done),by repeat (first|exact Drawn0.refl _|apply Drawn0.step)⟩
end Go.Proofs.Ytglffgneikoeaaa.M
namespace Go.Proofs.Ytglffgneikoeaaa.M
open Go.RowKit Go.Proofs.YtglffgneikoeaaaW.PrintWords Go.Proofs.YtglffgneikoeaaaW.PrintLast Go.Proofs.YtglffgneikoeaaaW.PrintMore
attribute [local go_sem] max2_int min2_int max_two min_two max_three min_three max_four min_four
attribute [local go_sem high] own_gtr own_leq own_geq own_cell_set Option.map_some
set_option linter.unusedVariables false
set_option linter.unusedSimpArgs false
def A1b.f (a0:Int) (a1:Int):Option (Int × Bool):=if ((decide (a0 ≥ 0)) != (decide (a1 ≥ 0))) = true then (some (wrap64 (a0 + a1),true)) else (some (wrap64 (a0 + a1),((decide ((wrap64 (a0 + a1)) ≥ 0)) == (decide (a0 ≥ 0)))))
set_option maxHeartbeats 8000000 in
set_option maxRecDepth 100000 in
theorem A1b.calls (a0:Int) (a1:Int) (r1:Int) (r2:Bool) (w:World) (h:A1b.f a0 a1 = some (r1,r2)) :
  Calls Try.prog 67 #[.int .i64 a0, .int .i64 a1] w fun e w'=>e = .returned (.tuple #[.int .i64 r1, .bool r2]) ∧ Drawn0 w w':=by
 have H:(if ((decide (a0 ≥ 0)) != (decide (a1 ≥ 0))) = true then (some (wrap64 (a0 + a1),true)) else (some (wrap64 (a0 + a1),((decide ((wrap64 (a0 + a1)) ≥ 0)) == (decide (a0 ≥ 0)))))) = some (r1,r2):=h
 clear h
 by_cases c3:((decide (a0 ≥ 0)) != (decide (a1 ≥ 0))) = true
 ·rw [if_pos c3] at H
  have c3b0:((decide (a0 ≥ 0)) != (decide (a1 ≥ 0))) = true:=c3
  (try (have c3b1:decide ((decide (a0 ≥ 0)) = (decide (a1 ≥ 0))) = false:=by simpa using c3))
  (try (have c3b2:((decide (a0 ≥ 0)) == (decide (a1 ≥ 0))) = false:=by simpa using c3))
  (try (have c3b3:¬ ((decide (a0 ≥ 0)) = (decide (a1 ≥ 0))):=by simpa using c3))
  clear c3
  simp only [Option.some.injEq,Prod.mk.injEq] at H
  obtain ⟨rfl,rfl⟩:=H
  go_enter Try.func67,Try.ntmps67
  go_wp2
  go_ret2
  exact ⟨by first|rfl|(simp;done)|(simp [*];done),by repeat (first|exact Drawn0.refl _|apply Drawn0.step)⟩
 ·rw [if_neg c3] at H
  have c3b0:((decide (a0 ≥ 0)) != (decide (a1 ≥ 0))) = false:=by simpa using c3
  (try (have c3b1:decide ((decide (a0 ≥ 0)) = (decide (a1 ≥ 0))) = true:=by simpa using c3))
  (try (have c3b2:((decide (a0 ≥ 0)) == (decide (a1 ≥ 0))) = true:=by simpa using c3))
  clear c3
  simp only [Option.some.injEq,Prod.mk.injEq] at H
  obtain ⟨rfl,rfl⟩:=H
  go_enter Try.func67,Try.ntmps67
  go_wp2
  go_ret2
  exact ⟨by first|rfl|(simp;done)|(simp [*];done),by repeat (first|exact Drawn0.refl _|apply Drawn0.step)⟩
end Go.Proofs.Ytglffgneikoeaaa.M
namespace Go.Proofs.Ytglffgneikoeaaa.M
open Go.RowKit Go.Proofs.YtglffgneikoeaaaW.PrintWords Go.Proofs.YtglffgneikoeaaaW.PrintLast Go.Proofs.YtglffgneikoeaaaW.PrintMore
attribute [local go_sem] max2_int min2_int max_two min_two max_three min_three max_four min_four
attribute [local go_sem high] own_gtr own_leq own_geq own_cell_set Option.map_some
set_option linter.unusedVariables false
set_option linter.unusedSimpArgs false
def Am0.f (a0:Int) (a1:Int):Option (Int × Bool):=if a0 = 0 then (some (0,true)) else (if a1 = 0 then (some (0,true)) else (if (wrap64 (Int.tdiv (wrap64 (a0 * a1)) a1)) = a0 then (if a0 = (-1) then (if (a1 = (-9223372036854775808)) then (some (wrap64 (a0 * a1),false)) else (if a1 = (-1) then (some (wrap64 (a0 * a1),!(a0 == (-9223372036854775808)))) else (some (wrap64 (a0 * a1),!false)))) else (if a1 = (-1) then (some (wrap64 (a0 * a1),!(a0 == (-9223372036854775808)))) else (some (wrap64 (a0 * a1),!false)))) else (some (wrap64 (a0 * a1),false))))
set_option maxHeartbeats 8000000 in
set_option maxRecDepth 100000 in
theorem Am0.calls (a0:Int) (a1:Int) (r1:Int) (r2:Bool) (w:World) (h:Am0.f a0 a1 = some (r1,r2)) :
  Calls Try.prog 68 #[.int .i64 a0, .int .i64 a1] w fun e w'=>e = .returned (.tuple #[.int .i64 r1, .bool r2]) ∧ Drawn0 w w':=by
 have H:(if a0 = 0 then (some (0,true)) else (if a1 = 0 then (some (0,true)) else (if (wrap64 (Int.tdiv (wrap64 (a0 * a1)) a1)) = a0 then (if a0 = (-1) then (if (a1 = (-9223372036854775808)) then (some (wrap64 (a0 * a1),false)) else (if a1 = (-1) then (some (wrap64 (a0 * a1),!(a0 == (-9223372036854775808)))) else (some (wrap64 (a0 * a1),!false)))) else (if a1 = (-1) then (some (wrap64 (a0 * a1),!(a0 == (-9223372036854775808)))) else (some (wrap64 (a0 * a1),!false)))) else (some (wrap64 (a0 * a1),false))))) = some (r1,r2):=h
 clear h
 by_cases c3:a0 = 0
 ·rw [if_pos c3] at H
  have c3b0:(a0 == 0) = true:=beq_iff_eq.mpr c3
  have c3b1:(a0 != 0) = false:=bne_eq_false_iff_eq.mpr c3
  clear c3
  simp only [Option.some.injEq,Prod.mk.injEq] at H
  obtain ⟨rfl,rfl⟩:=H
  go_enter Try.func68,Try.ntmps68
  go_wp2
  go_ret2
  exact ⟨by first|rfl|(simp;done)|(simp [*];done),by repeat (first|exact Drawn0.refl _|apply Drawn0.step)⟩
 ·rw [if_neg c3] at H
  have c3b0:(a0 == 0) = false:=beq_eq_false_iff_ne.mpr c3
  have c3b1:(a0 != 0) = true:=bne_iff_ne.mpr c3
  by_cases c4:a1 = 0
  ·rw [if_pos c4] at H
   have c4b0:(a1 == 0) = true:=beq_iff_eq.mpr c4
   have c4b1:(a1 != 0) = false:=bne_eq_false_iff_eq.mpr c4
   clear c4
   simp only [Option.some.injEq,Prod.mk.injEq] at H
   obtain ⟨rfl,rfl⟩:=H
   go_enter Try.func68,Try.ntmps68
   go_wp2
   go_ret2
   exact ⟨by first|rfl|(simp;done)|(simp [*];done),by repeat (first|exact Drawn0.refl _|apply Drawn0.step)⟩
  ·rw [if_neg c4] at H
   have c4b0:(a1 == 0) = false:=beq_eq_false_iff_ne.mpr c4
   have c4b1:(a1 != 0) = true:=bne_iff_ne.mpr c4
   by_cases c5:(wrap64 (Int.tdiv (wrap64 (a0 * a1)) a1)) = a0
   ·rw [if_pos c5] at H
    have c5b0:((wrap64 (Int.tdiv (wrap64 (a0 * a1)) a1)) == a0) = true:=beq_iff_eq.mpr c5
    have c5b1:((wrap64 (Int.tdiv (wrap64 (a0 * a1)) a1)) != a0) = false:=bne_eq_false_iff_eq.mpr c5
    clear c5
    by_cases c6:a0 = (-1)
    ·rw [if_pos c6] at H
     have c6b0:(a0 == (-1)) = true:=beq_iff_eq.mpr c6
     have c6b1:(a0 != (-1)) = false:=bne_eq_false_iff_eq.mpr c6
     clear c6
     by_cases c7:(a1 = (-9223372036854775808))
     ·rw [if_pos c7] at H
      have c7b0:(a1 == (-9223372036854775808)) = true:=beq_iff_eq.mpr c7
      have c7b1:(a1 != (-9223372036854775808)) = false:=bne_eq_false_iff_eq.mpr c7
      clear c7
      simp only [Option.some.injEq,Prod.mk.injEq] at H
      obtain ⟨rfl,rfl⟩:=H
      go_enter Try.func68,Try.ntmps68
      go_wp2
      go_ret2
      exact ⟨by first|rfl|(simp;done)|(simp [*];done),by repeat (first|exact Drawn0.refl _|apply Drawn0.step)⟩
     ·rw [if_neg c7] at H
      have c7b0:(a1 == (-9223372036854775808)) = false:=beq_eq_false_iff_ne.mpr c7
      have c7b1:(a1 != (-9223372036854775808)) = true:=bne_iff_ne.mpr c7
      by_cases c8:a1 = (-1)
      ·rw [if_pos c8] at H
       have c8b0:(a1 == (-1)) = true:=beq_iff_eq.mpr c8
       have c8b1:(a1 != (-1)) = false:=bne_eq_false_iff_eq.mpr c8
       clear c8
       simp only [Option.some.injEq,Prod.mk.injEq] at H
       obtain ⟨rfl,rfl⟩:=H
       go_enter Try.func68,Try.ntmps68
       go_wp2
       go_ret2
       exact ⟨by first|rfl|(simp;done)|(simp [*];done),by repeat (first|exact Drawn0.refl _|apply Drawn0.step)⟩
      ·rw [if_neg c8] at H
       have c8b0:(a1 == (-1)) = false:=beq_eq_false_iff_ne.mpr c8
       have c8b1:(a1 != (-1)) = true:=bne_iff_ne.mpr c8
       simp only [Option.some.injEq,Prod.mk.injEq] at H
       obtain ⟨rfl,rfl⟩:=H
       go_enter Try.func68,Try.ntmps68
       go_wp2
       go_ret2
       exact ⟨by first|rfl|(simp;done)|(simp [*];done),by repeat (first|exact Drawn0.refl _|apply Drawn0.step)⟩
    ·rw [if_neg c6] at H
     have c6b0:(a0 == (-1)) = false:=beq_eq_false_iff_ne.mpr c6
     have c6b1:(a0 != (-1)) = true:=bne_iff_ne.mpr c6
     by_cases c9:a1 = (-1)
     ·rw [if_pos c9] at H
      have c9b0:(a1 == (-1)) = true:=beq_iff_eq.mpr c9
      have c9b1:(a1 != (-1)) = false:=bne_eq_false_iff_eq.mpr c9
      clear c9
      simp only [Option.some.injEq,Prod.mk.injEq] at H
      obtain ⟨rfl,rfl⟩:=H
      go_enter Try.func68,Try.ntmps68
      go_wp2
      go_ret2
      exact ⟨by first|rfl|(simp;done)|(simp [*];done),by repeat (first|exact Drawn0.refl _|apply Drawn0.step)⟩
     ·rw [if_neg c9] at H
      have c9b0:(a1 == (-1)) = false:=beq_eq_false_iff_ne.mpr c9
      have c9b1:(a1 != (-1)) = true:=bne_iff_ne.mpr c9
      simp only [Option.some.injEq,Prod.mk.injEq] at H
      obtain ⟨rfl,rfl⟩:=H
      go_enter Try.func68,Try.ntmps68
      go_wp2
      go_ret2
      exact ⟨by first|rfl|(simp;done)|(simp [*];done),by repeat (first|exact Drawn0.refl _|apply Drawn0.step)⟩
   ·rw [if_neg c5] at H
    have c5b0:((wrap64 (Int.tdiv (wrap64 (a0 * a1)) a1)) == a0) = false:=beq_eq_false_iff_ne.mpr c5
    have c5b1:((wrap64 (Int.tdiv (wrap64 (a0 * a1)) a1)) != a0) = true:=bne_iff_ne.mpr c5
    simp only [Option.some.injEq,Prod.mk.injEq] at H
    obtain ⟨rfl,rfl⟩:=H
    go_enter Try.func68,Try.ntmps68
    go_wp2
    go_ret2
    exact ⟨by first|rfl|(simp;done)|(simp [*];done),by repeat (first|exact Drawn0.refl _|apply Drawn0.step)⟩
end Go.Proofs.Ytglffgneikoeaaa.M
