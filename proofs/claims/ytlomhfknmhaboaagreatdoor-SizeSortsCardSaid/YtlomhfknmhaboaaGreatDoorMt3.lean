/- Lemmas for the laws of this seat, part 3. -/
import Derived.Laws.BitsLemmas
import Derived.Laws.Bits64
import Derived.OrdersIn
import Derived.RangeFuncCalls
import Derived.RegionIn
import Derived.BigRegionIn
import Derived.WalkMore
import Derived.Scope
import Derived.Great.BuildSlice
import Derived.StillTail
import Derived.Lib.QuietBelow
import Derived.BigQuiet
import Derived.Laws.StructEq
import Derived.Lib.Join
import Derived.Shelf.Strings.OnBuilder
import Derived.Test.YtlomhfknmhaboaaGreatDoorMt2
namespace Go.Proofs.YtlomhfknmhaboaaGreatDoor
open Go.RowKit
def IsLg (p N a:Nat):Prop:=2 ^ a≤p ^ N∧p ^ N < 2 ^ (a + 1)
def digStep (unit:Nat) (s:Nat×Nat×Nat):Option (Nat×Nat×Nat) :=
 let low:=s.1 * s.1 / unit
 let high:=s.2.1 * s.2.1 / unit + 1
 if 2 * unit≤low then some (low / 2,high / 2 + 1,2 * s.2.2 + 1)
 else if 2 * unit≤high then none
 else some (low,high,2 * s.2.2)
def digs (p more:Nat):Nat→Option (Nat×Nat×Nat)
 | 0=>some (p * 2 ^ (more - p.log2),p * 2 ^ (more - p.log2),p.log2)
 | n + 1=>(digs p more n).bind (digStep (2 ^ more))
structure DigInv (p unit N:Nat) (s:Nat×Nat×Nat):Prop where
 lg:IsLg p N s.2.2
 lo:s.1 * 2 ^ s.2.2≤unit * p ^ N
 hi:unit * p ^ N≤s.2.1 * 2 ^ s.2.2
theorem digStep_inv {p unit N:Nat} {s t:Nat×Nat×Nat} (h0:0 < unit) (h:DigInv p unit N s) (hs:digStep unit s=some t):DigInv p unit (2 * N) t:=by
 obtain ⟨l,h',o⟩:=s
 obtain ⟨⟨g1,g2⟩,lo,hi⟩:=h
 simp only at g1 g2 lo hi
 simp only [digStep] at hs
 have hP:p ^ (2 * N)=p ^ N * p ^ N:=by rw [Nat.two_mul,Nat.pow_add]
 have hO:2 ^ (2 * o)=2 ^ o * 2 ^ o:=by rw [Nat.two_mul,Nat.pow_add]
 have hO1:2 ^ (2 * o + 1)=2 * (2 ^ o * 2 ^ o):=by rw [Nat.pow_succ,hO,Nat.mul_comm]
 have hO2:2 ^ (2 * o + 1 + 1)=4 * (2 ^ o * 2 ^ o):=by rw [Nat.pow_succ,hO1]; omega
 have hq:=Nat.div_mul_le_self (l * l) unit
 have hr:=Nat.lt_div_mul_add (a:=h' * h') h0
 generalize hA:l * l / unit=A at *
 generalize hB:h' * h' / unit=B at *
 rw [Nat.pow_succ] at g2
 generalize 2 ^ o=T at *
 generalize p ^ N=P at *
 -- A * (T * T) ≤ unit * (P * P)
 have e1:A * (T * T)≤unit * (P * P):=by
  have h1:A * unit * (T * T)≤(l * l) * (T * T):=Nat.mul_le_mul_right _ hq
  have h2:(l * T) * (l * T)≤(unit * P) * (unit * P):=Nat.mul_le_mul lo lo
  have h3:unit * (A * (T * T))≤unit * (unit * (P * P)):=by
   calc unit * (A * (T * T))=A * unit * (T * T):=by ac_rfl
    _≤(l * l) * (T * T):=h1
    _=(l * T) * (l * T):=by ac_rfl
    _≤_:=h2
    _=unit * (unit * (P * P)):=by ac_rfl
  exact Nat.le_of_mul_le_mul_left h3 h0
 have e2:unit * (P * P)≤(B + 1) * (T * T):=by
  have h1:h' * h' * (T * T)≤((B + 1) * unit) * (T * T):=Nat.mul_le_mul_right _ (by rw [Nat.add_mul,Nat.one_mul]; omega)
  have h2:(unit * P) * (unit * P)≤(h' * T) * (h' * T):=Nat.mul_le_mul hi hi
  have h3:unit * (unit * (P * P))≤unit * ((B + 1) * (T * T)):=by
   calc unit * (unit * (P * P))=(unit * P) * (unit * P):=by ac_rfl
    _≤_:=h2
    _=h' * h' * (T * T):=by ac_rfl
    _≤_:=h1
    _=unit * ((B + 1) * (T * T)):=by ac_rfl
  exact Nat.le_of_mul_le_mul_left h3 h0
 have e3:T * T≤P * P:=Nat.mul_le_mul g1 g1
 have e4:P * P < 4 * (T * T):=by
  have:=Nat.mul_lt_mul'' g2 g2
  have h4:T * 2 * (T * 2)=4 * (T * T):=by
   calc T * 2 * (T * 2)=(2 * 2) * (T * T):=by ac_rfl
    _=_:=rfl
  omega
 by_cases hl:2 * unit≤A
 ·rw [if_pos hl] at hs
  cases hs
  have e5:unit * (2 * (T * T))≤unit * (P * P):=by
   calc unit * (2 * (T * T))=2 * unit * (T * T):=by ac_rfl
    _≤A * (T * T):=Nat.mul_le_mul_right _ hl
    _≤_:=e1
  have e6:2 * (T * T)≤P * P:=Nat.le_of_mul_le_mul_left e5 h0
  refine ⟨⟨?_,?_⟩,?_,?_⟩
  ·simp only; rw [hO1,hP]; exact e6
  ·simp only; rw [hO2,hP]; exact e4
  ·simp only; rw [hO1,hP]
   have h5:A / 2 * 2 * (T * T)≤A * (T * T):=Nat.mul_le_mul_right _ (by omega)
   rw [Nat.mul_assoc] at h5
   exact Nat.le_trans h5 e1
  ·simp only; rw [hO1,hP]
   have h5:(B + 1) * (T * T)≤((B + 1) / 2 + 1) * 2 * (T * T):=Nat.mul_le_mul_right _ (by omega)
   rw [Nat.mul_assoc] at h5
   exact Nat.le_trans e2 h5
 ·rw [if_neg hl] at hs
  by_cases hh:2 * unit≤B + 1
  ·rw [if_pos hh] at hs; cases hs
  ·rw [if_neg hh] at hs
   cases hs
   have e7:unit * (P * P) < unit * (2 * (T * T)):=by
    have hT:0 < T * T:=by
     rcases Nat.eq_zero_or_pos (T * T) with h | h
     ·omega
     ·exact h
    calc unit * (P * P)≤(B + 1) * (T * T):=e2
     _ < 2 * unit * (T * T):=Nat.mul_lt_mul_of_pos_right (by omega) hT
     _=unit * (2 * (T * T)):=by ac_rfl
   have e8:P * P < 2 * (T * T):=Nat.lt_of_mul_lt_mul_left e7
   refine ⟨⟨?_,?_⟩,?_,?_⟩
   ·simp only; rw [hO,hP]; exact e3
   ·simp only; rw [hO1,hP]; exact e8
   ·simp only; rw [hO,hP]; exact e1
   ·simp only; rw [hO,hP]; exact e2
theorem digs_inv (p more:Nat) (hp:0 < p) (hm:p.log2≤more):∀ n s,digs p more n=some s→DigInv p (2 ^ more) (2 ^ n) s
 | 0,s,h=>by
  simp only [digs,Option.some.injEq] at h
  subst h
  refine ⟨⟨?_,?_⟩,?_,?_⟩
  ·simp only [Nat.pow_zero,Nat.pow_one]; exact Nat.log2_self_le (by omega)
  ·simp only [Nat.pow_zero,Nat.pow_one]; exact Nat.lt_log2_self
  all_goals
   simp only [Nat.pow_zero,Nat.pow_one]
   rw [Nat.mul_assoc,← Nat.pow_add,Nat.sub_add_cancel hm,Nat.mul_comm]
   exact Nat.le_refl _
 | n + 1,s,h=>by
  simp only [digs] at h
  obtain ⟨t,ht,hs⟩:=Option.bind_eq_some_iff.1 h
  have:=digStep_inv (Nat.two_pow_pos more) (digs_inv p more hp hm n t ht) hs
  rw [Nat.pow_succ,Nat.mul_comm]
  exact this
theorem or_shift (H b:Nat) (hb:b < 4):(H * 4) ||| b=H * 4 + b:=by
 have:=Nat.shiftLeft_add_eq_or_of_lt (b:=b) (i:=2) hb H
 rw [Nat.shiftLeft_eq] at this
 exact this.symm
theorem bits_cat (H L:Nat) (hH:H < 4611686018427387904) (hL:L < 18446744073709551616):bits .or .u64 ((H:Int) * 4) ((L:Int) / 4611686018427387904)=((H * 4 + L / 4611686018427387904:Nat):Int):=by
 have h:=(bits_nat .u64 64 (by decide) (fun n h0 h1=>by rw [IntKind.wrap_u64]; omega) (H * 4) (L / 4611686018427387904) (by omega) (by omega)).2
 rw [or_shift H _ (by omega)] at h
 simpa using h
theorem bitLen_log (p:Nat) (hp:0 < p) (hp2:p≤97):Lib.bitLen p=p.log2 + 1:=by
 have key:∀ q,q < 98→0 < q→Lib.bitLen q=q.log2 + 1:=by decide +kernel
 exact key p (by omega) hp
structure DigFit (j:Nat) (s:Nat×Nat×Nat):Prop where
 lo:s.1 < 9223372036854775808
 hi:s.2.1 < 9223372036854775808
 out:s.2.2 + 1≤7 * 2 ^ j
theorem digs_fit (p:Nat) (hp:2≤p) (hp2:p≤97):∀ j s,digs p 62 j=some s→DigFit j s
 | 0,s,h=>by
  simp only [digs,Option.some.injEq] at h
  subst h
  have h1:p < 2 ^ (p.log2 + 1):=Nat.lt_log2_self
  have h2:p.log2≤6:=by
   have:=(Nat.log2_lt (n:=p) (k:=7) (by omega)).2 (by omega)
   omega
  have h3:p * 2 ^ (62 - p.log2) < 2 ^ (p.log2 + 1) * 2 ^ (62 - p.log2):=Nat.mul_lt_mul_of_pos_right h1 (Nat.two_pow_pos _)
  rw [← Nat.pow_add,show p.log2 + 1 + (62 - p.log2)=63 by omega] at h3
  exact ⟨h3,h3,by simp; omega⟩
 | j + 1,s,h=>by
  simp only [digs] at h
  obtain ⟨t,ht,hs⟩:=Option.bind_eq_some_iff.1 h
  obtain ⟨f1,f2,f3⟩:=digs_fit p hp hp2 j t ht
  obtain ⟨l,g,o⟩:=t
  simp only at f1 f2 f3
  simp only [digStep] at hs
  have q1:l * l≤9223372036854775807 * 9223372036854775807:=Nat.mul_le_mul (by omega) (by omega)
  have q2:g * g≤9223372036854775807 * 9223372036854775807:=Nat.mul_le_mul (by omega) (by omega)
  have e:2 ^ (j + 1)=2 * 2 ^ j:=by rw [Nat.pow_succ]; omega
  rw [show (2:Nat) ^ 62=4611686018427387904 from rfl] at hs
  by_cases h1:2 * 4611686018427387904≤l * l / 4611686018427387904
  ·rw [if_pos h1] at hs
   cases hs
   exact ⟨by simp only; omega,by simp only; omega,by simp only; omega⟩
  ·rw [if_neg h1] at hs
   by_cases h2:2 * 4611686018427387904≤g * g / 4611686018427387904 + 1
   ·rw [if_pos h2] at hs; cases hs
   ·rw [if_neg h2] at hs
    cases hs
    exact ⟨by simp only; omega,by simp only; omega,by simp only; omega⟩
def fastV (p:Nat):Value:=match digs p 62 26 with
 | some s => .tuple #[.int .i64 s.2.2,.bool true]
 | none => .tuple #[.int .i64 0,.bool false]
set_option maxRecDepth 100000 in
set_option maxHeartbeats 8000000 in
theorem fast_any (w:World) (p:Nat) (hp:2≤p) (hp2:p≤97):Gives Tryz.prog 160 #[.int .i64 p] w (fastV p):=by
 unfold Gives
 have hln:=Lib.hid (Tryz.bits_Len p w (by omega) (by omega))
 rw [show ((p:Nat):Int).toNat=p from rfl,bitLen_log p (by omega) hp2] at hln
 have hk:p.log2≤6:=by
  have:=(Nat.log2_lt (n:=p) (k:=7) (by omega)).2 (by omega)
  omega
 have hw1:IntKind.i64.wrap (((p.log2 + 1:Nat):Int) - 1)=(p.log2:Int):=by rw [show ((p.log2 + 1:Nat):Int) - 1=(p.log2:Int) by omega]; exact IntWalk.i64_in _ (by omega)
 have hw2:IntKind.u64.wrap (p:Int)=p:=IntWalk.u64_in _ (by omega)
 have hw3:IntKind.i64.wrap (62 - (p.log2:Int))=((62 - p.log2:Nat):Int):=by rw [show 62 - (p.log2:Int)=((62 - p.log2:Nat):Int) by omega]; exact IntWalk.i64_in _ (by omega)
 go_enter Tryz.func160,Tryz.ntmps160
 go_wp2_with fail
 refine Calls.mono hln.out ?_
 rintro e w1 ⟨rfl,rfl⟩
 have hw4:IntKind.u64.wrap ((p:Int) * 2 ^ (62 - p.log2))=((p * 2 ^ (62 - p.log2):Nat):Int):=by
  have h0:=(digs_fit p hp hp2 0 _ rfl).lo
  simp only at h0
  rw [show ((p * 2 ^ (62 - p.log2):Nat):Int)=(p:Int) * 2 ^ (62 - p.log2) by simp]
  rw [← show ((p * 2 ^ (62 - p.log2):Nat):Int)=(p:Int) * 2 ^ (62 - p.log2) by simp]
  exact IntWalk.u64_in _ (by omega)
 have H0:Hid (digs p 62 0=some (p * 2 ^ (62 - p.log2),p * 2 ^ (62 - p.log2),p.log2)):=rfl
 have Hfit:=Lib.hid (digs_fit p hp hp2)
 have Hmul:=Lib.hid (fun x hx=>Tryz.bits_Mul64 x x hx hx w1)
 clear hln
 go_wp2_with fail
 go_loopw [5,6,7,21] (fun a b c i wr=>∃ (j lo hi o:Nat),j≤26∧Hid (digs p 62 j=some (lo,hi,o))∧a = .int .u64 lo∧b = .int .u64 hi∧c = .int .i64 o∧i = .int .i64 j∧wr=w1) (fun _ _ _ i _=>26 - (intOf i).toNat)
 case atStart=>exact ⟨0,_,_,_,by omega,H0,rfl,rfl,rfl,rfl,rfl⟩
 case round =>
  obtain ⟨j,lo,hi,o,hj,Hd,rfl,rfl,rfl,rfl,rfl⟩:=hrel
  by_cases hlt:j < 26
  ·have hlt':(j:Int) < 26:=by omega
   obtain ⟨f1,f2,f3⟩:=Hfit.out j _ Hd.out
   simp only at f1 f2 f3
   have hpw:2 ^ j≤2 ^ 26:=Nat.pow_le_pow_right (by decide) (by omega)
   rw [show (2:Nat) ^ 26=67108864 from rfl] at hpw
   have ho:o≤469762048:=by omega
   have q1:lo * lo≤9223372036854775807 * 9223372036854775807:=Nat.mul_le_mul (by omega) (by omega)
   have q2:hi * hi≤9223372036854775807 * 9223372036854775807:=Nat.mul_le_mul (by omega) (by omega)
   have hm1:=Hmul.out lo (by omega)
   have hm2:=Hmul.out hi (by omega)
   have Hstep:Hid (digs p 62 (j + 1)=digStep (2 ^ 62) (lo,hi,o)):=by
    show _=_
    simp only [digs,Hd.out,Option.bind_some]
   have hh1:lo * lo / 18446744073709551616 < 4611686018427387904:=by omega
   have hl1:lo * lo % 18446744073709551616 < 18446744073709551616:=Nat.mod_lt _ (by decide)
   have hx1:lo * lo / 18446744073709551616 * 4 + lo * lo % 18446744073709551616 / 4611686018427387904=lo * lo / 4611686018427387904:=by omega
   have hh2:hi * hi / 18446744073709551616 < 4611686018427387904:=by omega
   have hl2:hi * hi % 18446744073709551616 < 18446744073709551616:=Nat.mod_lt _ (by decide)
   have hx2:hi * hi / 18446744073709551616 * 4 + hi * hi % 18446744073709551616 / 4611686018427387904=hi * hi / 4611686018427387904:=by omega
   have hb1:=bits_cat _ _ hh1 hl1
   have hb2:=bits_cat _ _ hh2 hl2
   rw [hx1] at hb1
   rw [hx2] at hb2
   have hX1:lo * lo / 4611686018427387904≤18446744073709551612:=by omega
   have hX2:hi * hi / 4611686018427387904≤18446744073709551612:=by omega
   simp only [digStep] at Hstep
   rw [show (2:Nat) ^ 62=4611686018427387904 from rfl] at Hstep
   clear f3 hpw hx1 hx2 q1 q2
   generalize lo * lo / 18446744073709551616=H1 at *
   generalize lo * lo % 18446744073709551616=L1 at *
   generalize hi * hi / 18446744073709551616=H2 at *
   generalize hi * hi % 18446744073709551616=L2 at *
   generalize lo * lo / 4611686018427387904=X1 at *
   generalize hi * hi / 4611686018427387904=X2 at *
   clear f1 f2
   obtain ⟨x1,hx1⟩:∃ x1:Int,(X1:Int)=x1:=⟨_,rfl⟩
   obtain ⟨x2,hx2⟩:∃ x2:Int,(X2:Int) + 1=x2:=⟨_,rfl⟩
   have hwX:IntKind.u64.wrap ((X2:Int) + 1)=(X2:Int) + 1:=IntWalk.u64_in _ (by omega)
   have hx2':(X2:Int)=x2 - 1:=by omega
   rw [hx1] at hb1
   rw [hx2'] at hb2 hwX
   have hwX2:IntKind.u64.wrap (x2 - 1 + 1)=x2:=by rw [hwX]; omega
   have Hx1:=Lib.hid hx1
   have Hx2:=Lib.hid hx2
   have hx1b:0≤x1∧x1≤18446744073709551612:=by omega
   have hx2b:1≤x2∧x2≤18446744073709551613:=by omega
   clear hwX hx1 hx2 hx2'
   have hwH1:IntKind.u64.wrap ((H1:Int) * 4)=(H1:Int) * 4:=IntWalk.u64_in _ (by omega)
   have hwH2:IntKind.u64.wrap ((H2:Int) * 4)=(H2:Int) * 4:=IntWalk.u64_in _ (by omega)
   clear hX1 hX2 hh1 hh2 hl1 hl2
   go_wp2_with fail
   refine Calls.mono hm1 ?_
   rintro e w2 ⟨rfl,rfl⟩
   clear hm1
   go_wp2_with fail
   refine Calls.mono hm2 ?_
   rintro e w2 ⟨rfl,rfl⟩
   clear hm2
   go_wp2_with fail
   ·rename_i hc1
    have Hst:Hid (digs p 62 (j + 1)=some (X1 / 2,(X2 + 1) / 2 + 1,2 * o + 1)):=by
     show _=_
     rw [Hstep.out,if_pos (by have:=Hx1.out; omega)]
    go_roundw
    case rel=>exact ⟨j + 1,X1 / 2,(X2 + 1) / 2 + 1,2 * o + 1,by omega,Hst,by rw [← Hx1.out]; go_num,by rw [← Hx2.out]; go_num,by go_num,by go_num,trivial⟩
    case measure=>simp [intOf]; omega
   ·rename_i hc1 hc2
    have Hst:Hid (digs p 62 (j + 1)=none):=by
     show _=_
     rw [Hstep.out,if_neg (by have:=Hx1.out; omega),if_pos (by have:=Hx2.out; omega)]
    have Hnone:Hid (fastV p = .tuple #[.int .i64 0,.bool false]):=by
     have key:∀ m,digs p 62 (j + 1 + m)=none:=fun m=>by
      induction m with
      | zero=>exact Hst.out
      | succ m ih=>rw [← Nat.add_assoc]; show (digs p 62 (j + 1 + m)).bind _=none; rw [ih]; rfl
     show _=_
     unfold fastV
     have:=key (25 - j)
     rw [show j + 1 + (25 - j)=26 by omega] at this
     rw [this]
    go_ret2
    exact ⟨by rw [Hnone.out]; rfl,Below.refl _ _⟩
   ·rename_i hc1 hc2
    have Hst:Hid (digs p 62 (j + 1)=some (X1,X2 + 1,2 * o)):=by
     show _=_
     rw [Hstep.out,if_neg (by have:=Hx1.out; omega),if_neg (by have:=Hx2.out; omega)]
    go_roundw
    case rel=>exact ⟨j + 1,X1,X2 + 1,2 * o,by omega,Hst,by rw [← Hx1.out],by rw [← Hx2.out]; go_num,by go_num,by go_num,trivial⟩
    case measure=>simp [intOf]; omega
  ·have hlt':¬ (j:Int) < 26:=by omega
   have hj26:j=26:=by omega
   subst hj26
   have Hsome:Hid (fastV p = .tuple #[.int .i64 o,.bool true]):=by
    show _=_
    unfold fastV
    rw [Hd.out]
   go_wp2
   go_ret2
   exact ⟨by rw [Hsome.out]; rfl,Below.refl _ _⟩
end Go.Proofs.YtlomhfknmhaboaaGreatDoor

namespace Go.Proofs.YtlomhfknmhaboaaGreatDoor
open Go Go.Sort
section
variable {P:Program} {ops:Array Oper} {md:Region.Mode} {cs:List (Nat×(World→Prop))}
def noEnter2:Op→Bool
 | .move _ | .assign _ | .load _ _ | .fieldAddr _ _ _ | .indexAddr _ _ _ | .binOp _ _ _ _ _=>true
 | .call c=>match c.callee with
  | .builtin .min | .builtin .max | .builtin .len=>true
  | _=>false
 | _=>false
theorem no_enter2 {o:Oper} {a:Act} {w w':World} {f:FuncId} {args:Array Value} (ho:noEnter2 o.op=true) (h:(execOp a.eval o).run P w = .ok (.enter f args) w'):False:=by
 have cases5:(∃ x,o.op = .move x)∨(∃ x,o.op = .assign x)∨(∃ t x,o.op = .load t x)∨(∃ t x k,o.op = .fieldAddr t x k)∨(∃ t x y,o.op = .indexAddr t x y)∨(∃ b t x y r,o.op = .binOp b t x y r)∨(∃ c,o.op = .call c):=by
  cases hop:o.op <;> rw [hop] at ho <;> first | (simp [noEnter2] at ho; done) | simp
 rcases cases5 with ⟨x,hop⟩ | ⟨x,hop⟩ | ⟨t,x,hop⟩ | ⟨t,x,k,hop⟩ | ⟨t,x,y,hop⟩ | ⟨b,t,x,y,r,hop⟩ | ⟨c,hop⟩
 ·rw [BigFrame.run_move x hop] at h; cases h
 ·rw [BigFrame.run_assign x hop] at h; cases h
 ·unfold execOp at h; rw [hop] at h; exact value_no_enter h
 ·unfold execOp at h; rw [hop] at h; exact value_no_enter h
 ·unfold execOp at h; rw [hop] at h; exact value_no_enter h
 ·unfold execOp at h; rw [hop] at h; exact value_no_enter h
 ·rw [hop] at ho
  unfold execOp at h
  rw [hop] at h
  unfold noEnter2 at ho
  simp only at ho h
  unfold resolve at h
  cases hc:c.callee with
  | value x=>rw [hc] at ho; cases ho
  | invoke x y=>rw [hc] at ho; cases ho
  | builtin b =>
   rw [hc] at ho h
   simp only [Sem.run_bind,Sem.run_pure,Result.andThen_ok,invoke] at h
   cases b <;> first | (simp at ho; done) | (unfold builtin at h; exact value_no_enter h)
theorem still_of_quiet2 {D:World→Prop} {o:Oper} {a:Act} {w:World} {v:Value} (ho:noEnter2 o.op=true) (h:o.quietAt P a D w v) {K:Act→World→Prop} (hk:K (a.put o.dst v) w):o.wp P a w K (fun _ _ _=>False):=by
 unfold Oper.quietAt at h
 unfold Oper.wp
 have hne:=@no_enter2 P o a w
 generalize (execOp a.eval o).run P w=r at *
 cases r with
 | ok n w' =>
  cases n <;> simp only [Oper.quietUpon] at h <;> simp only [Oper.upon]
  case value u=>obtain ⟨rfl,rfl⟩:=h; exact hk
  case skip=>obtain ⟨rfl,rfl⟩:=h; exact hk
  case enter f args=>exact (hne ho rfl).elim
 | halt x w'=>simp only [Oper.quietUpon] at h
def SafeL:List (Nat×(World→Prop))→(Nat→Bool)→World→Prop
 | [],_,_=>True
 | c :: cs,b,w=>(b c.1=true∨c.2 w)∧SafeL cs b w
theorem SafeL.get:∀ {cs:List (Nat×(World→Prop))} {b:Nat→Bool} {w:World},SafeL cs b w→∀ c∈cs,b c.1=true∨c.2 w
 | [],_,_,_,c,hc=>by cases hc
 | d :: cs,b,w,h,c,hc=>by
  rcases List.mem_cons.1 hc with rfl | hc
  ·exact h.1
  ·exact SafeL.get h.2 c hc
theorem SafeL.mono:∀ {cs:List (Nat×(World→Prop))} {b b':Nat→Bool} {w:World},(∀ s,b s=true→b' s=true)→SafeL cs b w→SafeL cs b' w
 | [],_,_,_,_,_=>trivial
 | _ :: _,_,_,_,hb,h=>⟨h.1.imp (hb _) id,SafeL.mono hb h.2⟩
theorem SafeL.congr {cs:List (Nat×(World→Prop))} {b b':Nat→Bool} {w:World} (hb:∀ s,b s=b' s) (h:SafeL cs b w):SafeL cs b' w:=h.mono (fun s hs=>by rw [← hb s]; exact hs)
def upB (listed:Array Bool) (s:Nat):Bool:=listed.getD s false
def anyR2 (P:Program) (md:Region.Mode) (ops:Array Oper) (cs:List (Nat×(World→Prop))) (Q:Act→World→Prop):Nat→Array Bool→Act→World→Prop
 | 0,listed,a,w=>Region.ready md ops listed=[]∧Q a w
 | f + 1,listed,a,w=>Region.ready md ops listed≠[]∧∀ i∈Region.ready md ops listed,
   wpOp P ops (fun _ _ _=>False) i (fun a' w'=>SafeL cs (upB (listed.setIfInBounds i true)) w'∧anyR2 P md ops cs Q f (listed.setIfInBounds i true) a' w') a w
def ReadsIn2 (P:Program) (ops:Array Oper) (md:Region.Mode) (cs:List (Nat×(World→Prop))) (i:Nat) (o:Oper) (v:Value) (a:Act):Prop :=
 (∃ c∈cs,reachB md ops 4 c.1 i=true∧YieldsIn P ops c.2 o v a)∨YieldsIn P ops (fun _=>True) o v a
theorem ReadsIn2.of_same {i:Nat} {o:Oper} {v:Value} {a a':Act} (hy:ReadsIn2 P ops md cs i o v a) (he:execOp a'.eval o=execOp a.eval o)
  (hw:Region.wanted o (yielded ops a'.tmps)=Region.wanted o (yielded ops a.tmps)):ReadsIn2 P ops md cs i o v a' :=
 hy.imp (fun ⟨c,hc,h1,h2⟩=>⟨c,hc,h1,h2.of_same he hw⟩) (fun h=>h.of_same he hw)
theorem reads_op2 {i:Nat} {o:Oper} {v:Value} {a:Act} {w:World} {listed:Array Bool} (hi:ops[i]?=some o) (hne:noEnter2 o.op=true) (inv:RInv md ops listed) (hr:i∈Region.ready md ops listed) (hs:SafeL cs (upB listed) w)
  (hy:ReadsIn2 P ops md cs i o v a) {K:Act→World→Prop} (hk:K (a.put o.dst v) w):wpOp P ops (fun _ _ _=>False) i K a w:=by
 have key:∀ D:World→Prop,D w→YieldsIn P ops D o v a→wpOp P ops (fun _ _ _=>False) i K a w:=fun D hD h=>by
  unfold wpOp
  simp only [hi]
  rcases h with ⟨h1,h2⟩ | ⟨h1,rfl⟩
  ·simp only [h1,if_true]
   exact .inl (still_of_quiet2 hne (h2 w hD) hk)
  ·simp only [h1,Bool.false_eq_true,if_false]
   exact hk
 rcases hy with ⟨c,hc,hw,h⟩ | h
 ·refine key c.2 ?_ h
  rcases hs.get c hc with hs | hs
  ·have:=reach_listed inv 4 c.1 i hw hs
   rw [getD_both (mem_ready.1 hr).1] at this
   cases this
  ·exact hs
 ·exact key _ trivial h
theorem wpOp_put2 {j:Nat} {oi oj:Oper} {v:Value} (hj:ops[j]?=some oj) (hap:oi.apart ops oj=true)
  (hsi:∀ cs b,oi.op ≠ .select cs b) (hsj:∀ cs b,oj.op ≠ .select cs b) {i:Nat} {K:Act→World→Prop} {a:Act} {w:World}
  (hy:ReadsIn2 P ops md cs i oi v a) (h:wpOp P ops (fun _ _ _=>False) j K (a.put oi.dst v) w) :
  wpOp P ops (fun _ _ _=>False) j (fun a' w'=>ReadsIn2 P ops md cs i oi v a'∧K (a'.put oi.dst v) w') a w:=by
 obtain ⟨h1,h2,h3⟩:=Oper.apart_spec hap
 have keep:∀ (a:Act),ReadsIn2 P ops md cs i oi v a→∀ u,ReadsIn2 P ops md cs i oi v (a.put oj.dst u):=fun a hy u =>
  hy.of_same (execOp_put oi hsi a oj.dst u h3) (wanted_put oi a oj.dst u h3)
 have keepd:∀ d,ReadsIn2 P ops md cs i oi v ({ a with defers:=d :: a.defers }:Act):=fun d=>hy.of_same rfl rfl
 unfold wpOp at *
 simp only [hj] at *
 rw [wanted_put oj a oi.dst v h1] at h
 split
 ·rename_i hw
  simp only [hw,if_true] at h
  left
  rcases h with h | ⟨_,_,_,hf⟩
  ·unfold Oper.wp at *
   rw [execOp_put oj hsj a oi.dst v h1] at h
   generalize (execOp a.eval oj).run P w=r at *
   cases r with
   | ok n w' =>
    cases n <;> simp only [Oper.upon] at h ⊢
    case value u=>exact ⟨keep a hy u,by rw [← Act.put_comm a v u h2]; exact h⟩
    case skip=>exact ⟨keep a hy undef,by rw [← Act.put_comm a v undef h2]; exact h⟩
    case defer d =>
     refine ⟨keep _ (keepd d) undef,?_⟩
     rw [Act.put_defers] at h
     rw [← Act.put_comm _ v undef h2]
     exact h
    case enter f args =>
     exact Calls.mono h (fun e w'' he=>by
      cases e
      case returned u=>exact ⟨keep a hy u,by rw [← Act.put_comm a v u h2]; exact he⟩
      case panicked c=>exact he
      case outgrown=>obtain ⟨_,_,hf⟩:=he; exact hf.elim)
    case row row args=>exact Rows.mono h (fun u w'' he=>⟨keep a hy u,by rw [← Act.put_comm a v u h2]; exact he⟩)
    all_goals exact h
   | halt x w'=>cases x <;> simp only [Oper.upon] at h <;> exact h.elim
  ·exact hf.elim
 ·rename_i hw
  simp only [hw] at h
  exact ⟨keep a hy _,by rw [← Act.put_comm a v undef h2]; exact h⟩
theorem anyR2_first {i:Nat} {oi:Oper} {v:Value} {Q:Act→World→Prop} (hi:ops[i]?=some oi) (his:∀ c∈cs,i≠c.1) (hne:noEnter2 oi.op=true) (hsel:∀ (j:Nat) (o:Oper) cs b,ops[j]?=some o→o.op ≠ .select cs b) :
  ∀ (f:Nat) (listed:Array Bool) (a:Act) (w:World),RInv md ops listed →
   (∀ j oj,ops[j]?=some oj→j≠i→listed.getD j true=false→(∀ e∈oj.after,Region.binds md e=true→e.on≠i)→oi.apart ops oj=true) →
   i∈Region.ready md ops listed→ReadsIn2 P ops md cs i oi v a→SafeL cs (upB listed) w →
   anyR2 P md ops cs Q f (listed.setIfInBounds i true) (a.put oi.dst v) w→anyR2 P md ops cs Q (f + 1) listed a w:=by
 have hstep:∀ (listed:Array Bool) (w:World),SafeL cs (upB listed) w→SafeL cs (upB (listed.setIfInBounds i true)) w:=fun listed w h=>h.mono (fun s hs=>getD_set_true hs)
 have hback:∀ (cs':List (Nat×(World→Prop))),(∀ c∈cs',i≠c.1)→∀ (listed:Array Bool) (w:World),SafeL cs' (upB (listed.setIfInBounds i true)) w→SafeL cs' (upB listed) w:=by
  intro cs'
  induction cs' with
  | nil=>intro _ _ _ _; trivial
  | cons c cs' ih =>
   intro hi' listed w h
   refine ⟨h.1.imp (fun hb=>?_) id,ih (fun d hd=>hi' d (List.mem_cons_of_mem _ hd)) listed w h.2⟩
   unfold upB at hb ⊢
   rw [getD_set_ne false (hi' c (List.mem_cons_self ..))] at hb
   exact hb
 intro f
 induction f with
 | zero =>
  intro listed a w inv _ hr hy hs H
  refine ⟨fun h=>(by rw [h] at hr; cases hr),fun j hj=>?_⟩
  by_cases hji:j=i
  ·subst hji
   exact reads_op2 hi hne inv hr hs hy ⟨hstep _ _ hs,H⟩
  ·have:=ready_mono hj hji
   rw [H.1] at this
   cases this
 | succ f ih =>
  intro listed a w inv hfree hr hy hs H
  have hun:=(mem_ready.1 hr).1
  refine ⟨fun h=>(by rw [h] at hr; cases hr),fun j hj=>?_⟩
  by_cases hji:j=i
  ·subst hji
   exact reads_op2 hi hne inv hr hs hy ⟨hstep _ _ hs,H⟩
  ·have h1:=H.2 j (ready_mono hj hji)
   obtain ⟨hjun,oj,hoj,hall⟩:=mem_ready.1 hj
   have hnot:∀ e∈oj.after,Region.binds md e=true→e.on≠i:=fun e he hb heq=>by
    have h1:=hall e he hb
    rw [heq,getD_both hun] at h1
    cases h1
   have h2:=wpOp_put2 hoj (hfree j oj hoj hji hjun hnot) (fun cs b=>hsel i oi cs b hi) (fun cs b=>hsel j oj cs b hoj) hy h1
   have hfree':∀ k ok,ops[k]?=some ok→k≠i→(listed.setIfInBounds j true).getD k true=false →
     (∀ e∈ok.after,Region.binds md e=true→e.on≠i)→oi.apart ops ok=true:=fun k ok hk hki hun hno=>by
    refine hfree k ok hk hki ?_ hno
    by_cases hjk:j=k
    ·subst hjk; exact hjun
    ·rw [getD_set_ne true hjk] at hun; exact hun
   have hr':=ready_mono hr (Ne.symm hji)
   refine wpOp_mono (fun a' w' h3=>?_) h2
   obtain ⟨hy',hs',H'⟩:=h3
   have hs2:SafeL cs (upB (listed.setIfInBounds j true)) w':=by
    rw [Array.setIfInBounds_comm _ _ (Ne.symm hji)] at hs'
    exact hback cs his _ _ hs'
   refine ⟨hs2,ih (listed.setIfInBounds j true) a' w' (inv.set hj) hfree' hr' hy' hs2 ?_⟩
   rw [Array.setIfInBounds_comm _ _ hji]
   exact H'
def ordB2 (md:Region.Mode) (ops:Array Oper) (ss:List Nat):List (Nat×Nat)→Array Bool→Bool
 | [],listed=>(Region.ready md ops listed).isEmpty
 | (k,i) :: l,listed =>
  (if k=0 then decide (Region.ready md ops listed=[i])
  else (Region.ready md ops listed).contains i && Region.free md ops listed i && (match ops[i]? with | some o=>noEnter2 o.op | none=>false) && (ss.all fun s=>decide (i≠s)) && (k == 1 || reachB md ops 4 (k - 2) i)) &&
  ordB2 md ops ss l (listed.setIfInBounds i true)
def walkR2 (P:Program) (ops:Array Oper) (cs:List (Nat×(World→Prop))) (Q:Act→World→Prop):List (Nat×Nat)→(Nat→Bool)→Act→World→Prop
 | [],_,a,w=>Q a w
 | (k,i) :: l,b,a,w =>
  if k=0 then wpList P ops (fun e a' w'=>e = .normal∧SafeL cs (fun s=>b s || i == s) w'∧walkR2 P ops cs Q l (fun s=>b s || i == s) a' w') (ops[i]?).toList a w
  else if k=1 then wpQuiet P ops (fun _=>True) (fun a'=>walkR2 P ops cs Q l b a' w) (ops[i]?).toList a
  else ∃ c∈cs,c.1=k - 2∧wpQuiet P ops c.2 (fun a'=>walkR2 P ops cs Q l b a' w) (ops[i]?).toList a
theorem SafeL.congr_on:∀ {cs:List (Nat×(World→Prop))} {b b':Nat→Bool} {w:World},(∀ c∈cs,b c.1=b' c.1)→SafeL cs b w→SafeL cs b' w
 | [],_,_,_,_,_=>trivial
 | c :: cs,b,b',w,hb,h=>⟨h.1.imp (fun h1=>by rw [← hb c (List.mem_cons_self ..)]; exact h1) id,SafeL.congr_on (fun d hd=>hb d (List.mem_cons_of_mem _ hd)) h.2⟩
theorem anyR2_walk {Q:Act→World→Prop} (hsel:Region.noSelect ops=true) :
  ∀ (l:List (Nat×Nat)) (b:Nat→Bool) (listed:Array Bool) (a:Act) (w:World),(∀ c∈cs,b c.1=upB listed c.1)→RInv md ops listed→SafeL cs (upB listed) w→ordB2 md ops (cs.map Prod.fst) l listed=true →
   walkR2 P ops cs Q l b a w→anyR2 P md ops cs Q l.length listed a w
 | [],b,listed,a,w,_,_,_,hB,h=>⟨by simpa [ordB2] using hB,h⟩
 | (k,i) :: l,b,listed,a,w,hb,inv,hs,hB,h=>by
  simp only [ordB2,Bool.and_eq_true] at hB
  obtain ⟨hB1,hB2⟩:=hB
  by_cases hk:k=0
  ·subst hk
   simp only [if_true,decide_eq_true_eq] at hB1
   have hr:i∈Region.ready md ops listed:=by rw [hB1]; exact List.mem_singleton.2 rfl
   obtain ⟨hun,o,ho,_⟩:=mem_ready.1 hr
   have hlt:i < listed.size:=by rw [inv.size]; exact (Array.getElem?_eq_some_iff.1 ho).1
   have hgs:∀ c∈cs,(b c.1 || i == c.1)=upB (listed.setIfInBounds i true) c.1:=fun c hc=>by
    rw [hb c hc]
    unfold upB
    by_cases his:i=c.1
    ·rw [his] at hlt ⊢
     simp [hlt]
    ·rw [getD_set_ne false his]
     simp [his]
   refine ⟨by rw [hB1]; simp,fun j hj=>?_⟩
   rw [hB1] at hj
   obtain rfl:=List.mem_singleton.1 hj
   simp only [walkR2,if_true,ho,Option.toList] at h
   have h2:wpOp P ops (fun e a' w'=>e = .normal∧SafeL cs (fun s=>b s || j == s) w'∧walkR2 P ops cs Q l (fun s=>b s || j == s) a' w') j (fun a' w'=>SafeL cs (fun s=>b s || j == s) w'∧walkR2 P ops cs Q l (fun s=>b s || j == s) a' w') a w:=by
    unfold wpOp
    simp only [ho]
    simp only [wpList,true_and] at h
    exact h
   have h3:=wpOp_strong (fun e a' w' hq=>hq.1) h2
   refine wpOp_mono (fun a' w' h4=>?_) h3
   have hs2:SafeL cs (upB (listed.setIfInBounds j true)) w':=h4.1.congr_on hgs
   exact ⟨hs2,anyR2_walk hsel l _ _ a' w' hgs (inv.set hr) hs2 hB2 h4.2⟩
  ·rw [if_neg hk] at hB1
   simp only [Bool.and_eq_true,Bool.or_eq_true,beq_iff_eq,List.all_eq_true,decide_eq_true_eq] at hB1
   obtain ⟨⟨⟨⟨hr,hf⟩,hne⟩,his⟩,hw⟩:=hB1
   have hr':i∈Region.ready md ops listed:=by simpa using hr
   obtain ⟨_,o,ho,_⟩:=mem_ready.1 hr'
   have hne':noEnter2 o.op=true:=by rw [ho] at hne; exact hne
   have his':∀ c∈cs,i≠c.1:=fun c hc=>his c.1 (List.mem_map.2 ⟨c,hc,rfl⟩)
   have hs2:SafeL cs (upB (listed.setIfInBounds i true)) w:=hs.mono (fun s hs=>getD_set_true hs)
   simp only [walkR2,if_neg hk] at h
   have hread:∃ v,ReadsIn2 P ops md cs i o v a∧walkR2 P ops cs Q l b (a.put o.dst v) w:=by
    by_cases h2:k=1
    ·rw [if_pos h2] at h
     obtain ⟨v,hy,hK⟩:=yieldsIn_of_qOp ho (qOp_of_list ho h)
     exact ⟨v,.inr hy,hK⟩
    ·rw [if_neg h2] at h
     obtain ⟨c,hc,hck,h⟩:=h
     obtain ⟨v,hy,hK⟩:=yieldsIn_of_qOp ho (qOp_of_list ho h)
     exact ⟨v,.inl ⟨c,hc,by rw [hck]; exact hw.resolve_left h2,hy⟩,hK⟩
   obtain ⟨v,hy,hK⟩:=hread
   have hb2:∀ c∈cs,b c.1=upB (listed.setIfInBounds i true) c.1:=fun c hc=>by
    rw [hb c hc]; unfold upB; rw [getD_set_ne false (his' c hc)]
   exact anyR2_first ho his' hne' (Region.noSelect_spec hsel) l.length listed a w inv (Region.free_spec ho hf) hr' hy hs
    (anyR2_walk hsel l b _ _ w hb2 (inv.set hr') hs2 hB2 hK)
theorem start2 {ord:List (Nat×Nat)} {l:List Oper} {a:Act} {w:World} {Q:Act→World→Prop} (hsel:Region.noSelect l.toArray=true) (hord:ordB2 .any l.toArray (cs.map Prod.fst) ord (Array.replicate l.length false)=true)
  (hC:SafeL cs (fun _=>false) w) (h:walkR2 P l.toArray cs Q ord (fun _=>false) a w):anyR2 P .any l.toArray cs Q ord.length (Array.replicate l.length false) a w:=by
 have hf:∀ s,upB (Array.replicate l.length false) s=false:=fun s=>getD_replicate_false _ _
 refine anyR2_walk hsel ord _ _ a w (fun c _=>(hf c.1).symm) ⟨by simp,fun j oj _ hl=>(by rw [getD_replicate_false] at hl; cases hl)⟩ (hC.congr_on (fun c _=>(hf c.1).symm)) hord h
theorem wpOpIn_of_wpOp {i l0 n:Nat} {a:Act} {w:World} {K K':Act→World→Prop} {Q':Exit→Act→World→Prop} (hnd:∀ o c,ops[i]?=some o→o.op ≠ .defer c) (_hnr:∀ o c,ops[i]?=some o→o.op ≠ .go c) (hk:∀ a w,K a w→K' a w)
  (h:wpOp P ops (fun _ _ _=>False) i K a w):wpOpIn (Fence.wide.inRound l0) n P ops Q' i K' a w:=by
 unfold wpOp at h
 unfold wpOpIn
 split
 ·rename_i ho; simp only [ho] at h; exact hk _ _ h
 ·rename_i o ho
  simp only [ho] at h
  split
  ·rename_i hw
   simp only [hw,if_true] at h
   rcases h with h | ⟨_,_,_,hf⟩
   ·refine ⟨fun _ _=>trivial,?_⟩
    unfold Oper.wp at h
    rw [show (Fence.wide.inRound l0).round=some l0 from rfl,Oper.semAt_some l0 _ _ (fun c=>hnd o c ho)]
    generalize (execOp a.eval o).run P w=r at *
    cases r with
    | ok x w' =>
     cases x <;> simp only [Oper.upon,Oper.uponIn] at h ⊢
     case value=>exact hk _ _ h
     case skip=>exact hk _ _ h
     case defer=>exact hk _ _ h
     case enter f args =>
      refine ⟨fun hd=>(by cases hd),?_⟩
      have h2:=Calls.mono h (R':=fun e w''=>match e,w'' with
       | .returned v,w''=>K' (a.put o.dst v) w''
       | .panicked chain,w''=>Q' (.panic chain) a w''
       | .outgrown,_=>LetsOut Q') (fun e w'' he=>by cases e <;> first | exact hk _ _ he | exact he.elim | (obtain ⟨_,_,hf⟩:=he; exact hf.elim))
      exact CallsIn.inRound l0 (callsIn_wide.2 h2)
     case row row args=>exact ⟨fun hd=>(by cases hd),fun c cs _=>let ⟨v,w',r,s⟩:=h c cs; ⟨v,w',hk _ _ r,stepsIn_wide.2 s⟩⟩
    | halt x w'=>cases x <;> simp only [Oper.upon] at h <;> exact h.elim
   ·exact hf.elim
  ·rename_i hw; simp only [hw] at h; exact ⟨fun _ _=>trivial,hk _ _ h⟩
def plainOps (ops:Array Oper):Bool:=ops.all fun o=>match o.op with | .defer _ | .go _=>false | _=>true
theorem plainOps_spec {ops:Array Oper} (h:plainOps ops=true) {i:Nat} {o:Oper} (hi:ops[i]?=some o):(∀ c,o.op ≠ .defer c)∧(∀ c,o.op ≠ .go c):=by
 have hm:o∈ops:=Array.mem_of_getElem? hi
 have:=Array.all_eq_true'.1 h o hm
 refine ⟨fun c hc=>?_,fun c hc=>?_⟩ <;> rw [hc] at this <;> cases this
theorem anyR2_anyIn {l0 n:Nat} {Q:Act→World→Prop} {Q':Exit→Act→World→Prop} (hpl:plainOps ops=true) (hQ:∀ a w,Q a w→Q' .normal a w) :
  ∀ (f:Nat) (listed:Array Bool) (a:Act) (w:World),anyR2 P md ops cs Q f listed a w→wpAnyIn (Fence.wide.inRound l0) n P md ops Q' f listed a w
 | 0,_,_,_,h=>⟨h.1,hQ _ _ h.2⟩
 | f + 1,_,_,_,h=>⟨fun h0=>absurd h0 h.1,fun i hi=>wpOpIn_of_wpOp (fun _ c ho=>(plainOps_spec hpl ho).1 c) (fun _ c ho=>(plainOps_spec hpl ho).2 c) (fun a' w' h'=>anyR2_anyIn hpl hQ f _ a' w' h'.2) (h.2 i hi)⟩
theorem wpIn_region_readers2 {id l0 n:Nat} {Q:Exit→Act→World→Prop} {a:Act} {w:World} {l:List Oper} (ord:List (Nat×Nat)) (cs:List (Nat×(World→Prop))) (hm:P.follows .mixedOrders=true)
  (hB:(Region.noSelect l.toArray && decide (ord.length=l.length) && plainOps l.toArray && ordB2 .any l.toArray (cs.map Prod.fst) ord (Array.replicate l.length false))=true)
  (hC:SafeL cs (fun _=>false) { w with drawn:=w.drawn + 1 }) (h:walkR2 P l.toArray cs (fun a' w'=>Q .normal a' w') ord (fun _=>false) a { w with drawn:=w.drawn + 1 }):(Code.region id l.toArray true).wpIn (Fence.wide.inRound l0) n P Q a w:=by
 simp only [Bool.and_eq_true,decide_eq_true_eq] at hB
 obtain ⟨⟨⟨hsel,hlen⟩,hpl⟩,hord⟩:=hB
 refine wpIn_region_any hm ?_
 have:=anyR2_anyIn (l0:=l0) (n:=n) (Q':=Q) hpl (fun a w h=>h) _ _ _ _ (start2 hsel hord hC h)
 rw [hlen] at this
 simpa using this
theorem walkR2_read {s i:Nat} {Q:Act→World→Prop} {l:List (Nat×Nat)} {b:Nat→Bool} {a:Act} {w:World} {lo:List Oper} (c:Nat×(World→Prop)) (hc:c∈cs) (hs:c.1=s) (h:wpQuiet P lo.toArray c.2 (fun a'=>walkR2 P lo.toArray cs Q l b a' w) ((lo.drop i).take 1) a):walkR2 P lo.toArray cs Q ((s + 2,i) :: l) b a w:=by
 simp only [walkR2,pick_one]
 rw [if_neg (by omega),if_neg (by omega)]
 exact ⟨c,hc,by omega,h⟩
theorem walkR2_any {i:Nat} {Q:Act→World→Prop} {l:List (Nat×Nat)} {b:Nat→Bool} {a:Act} {w:World} {lo:List Oper} (h:wpQuiet P lo.toArray (fun _=>True) (fun a'=>walkR2 P lo.toArray cs Q l b a' w) ((lo.drop i).take 1) a):walkR2 P lo.toArray cs Q ((1,i) :: l) b a w:=by
 simp only [walkR2,pick_one]
 exact h
theorem walkR2_move {i:Nat} {Q:Act→World→Prop} {l:List (Nat×Nat)} {b:Nat→Bool} {a:Act} {w:World} {lo:List Oper}
  (h:wpList P lo.toArray (fun e a' w'=>e = .normal∧SafeL cs (fun s=>b s || i == s) w'∧walkR2 P lo.toArray cs Q l (fun s=>b s || i == s) a' w') ((lo.drop i).take 1) a w):walkR2 P lo.toArray cs Q ((0,i) :: l) b a w:=by
 simp only [walkR2,pick_one]
 exact h
end
end Go.Proofs.YtlomhfknmhaboaaGreatDoor

namespace Go.Proofs.YtlomhfknmhaboaaGreatDoor
open Go.RowKit Go.Shelf
attribute [local go_sem] Oper.semAt_some
def lgA (p:Int):Int:=match digs p.toNat 62 26 with
 | some s=>s.2.2
 | none=>0
def lgB (p:Int):Int:=if p=2 then lgA p else lgA p + 1
def okT (most:Int) (x:Int×Int):Prop:=(-most≤x.2∧x.2≤most)∧(digs x.1.toNat 62 26).isSome=true
instance (most:Int) (x:Int×Int):Decidable (okT most x):=by unfold okT; infer_instance
def lowT (tl:List (Int×Int)):Int:=(tl.map fun x=>min (x.2 * lgA x.1) (x.2 * lgB x.1)).sum
def highT (tl:List (Int×Int)):Int:=(tl.map fun x=>max (x.2 * lgA x.1) (x.2 * lgB x.1)).sum
structure CellW (p:Addr) (v:Value) where
 w:World
 h:w.cell? p=some v
def nearV (most:Int) (tl:List (Int×Int)):Value :=
 if ∀ x∈tl,okT most x then .tuple #[.int .i64 (lowT tl),.int .i64 (highT tl),.bool true] else .tuple #[.int .i64 0,.int .i64 0,.bool false]
theorem keeps_of_below {W W':World} (h:Below W.heap.size W W'):KeepsOthers W W' :=
 ⟨h.size,fun k _ hk _=>(h.block k (Array.getElem?_eq_some_iff.1 hk).1).trans hk⟩
theorem one_cell {w:World} {g:Nat} {a:Value} {t:TypeId} (h:w.heap[g]?=some (.cells #[a] t (0,0))):w.cell? ⟨g,0,none⟩=some a∧w.frozen? ⟨g,0,none⟩=false :=
 ⟨by rw [cell_of_row w g 0 _ t (0,0) h]; rfl,by simp [World.frozen?,h]⟩
theorem heap_old {w:World} {g:Nat} {o:Obj} (h:w.heap[g]?=some o) (o':Obj):(w.alloc o').heap[g]?=some o:=by
 exact (Below.heap_alloc w o' g (Array.getElem?_eq_some_iff.1 h).1).trans h
theorem heap_at (w:World) (c:Array Value) (t:TypeId) (k:Nat) (hk:w.heap.size=k):(w.alloc (.cells c t)).heap[k]?=some (.cells c t (0,0)):=by
 subst hk; exact Go.heap_alloc_new w _
theorem boxes5 (w:World) (o1:Obj) (v2 v3 v4 v5:Value) (t2 t3 t4 t5:TypeId) (W:World) (hW:((((w.alloc o1).alloc (.cells #[v2] t2)).alloc (.cells #[v3] t3)).alloc (.cells #[v4] t4)).alloc (.cells #[v5] t5)=W) :
  W.heap[w.heap.size + 1]?=some (.cells #[v2] t2 (0,0))∧W.heap[w.heap.size + 1 + 1]?=some (.cells #[v3] t3 (0,0))∧W.heap[w.heap.size + 1 + 1 + 1]?=some (.cells #[v4] t4 (0,0))∧W.heap[w.heap.size + 1 + 1 + 1 + 1]?=some (.cells #[v5] t5 (0,0)):=by
 subst hW
 refine ⟨heap_old (heap_old (heap_old (heap_at _ _ _ _ (by simp)) _) _) _,heap_old (heap_old (heap_at _ _ _ _ (by simp)) _) _,heap_old (heap_at _ _ _ _ (by simp)) _,heap_at _ _ _ _ (by simp)⟩
structure NearI (B:Nat) (most:Int) (l:List (Int×Int)) (W:World):Prop where
 c3:W.cell? ⟨B + 1,0,none⟩=some (.int .i64 most)
 c4:W.cell? ⟨B + 1 + 1,0,none⟩=some (.int .i64 (lowT l))
 c5:W.cell? ⟨B + 1 + 1 + 1,0,none⟩=some (.int .i64 (highT l))
 c6:W.cell? ⟨B + 1 + 1 + 1 + 1,0,none⟩=some (.bool false)
 f4:W.frozen? ⟨B + 1 + 1,0,none⟩=false
 f5:W.frozen? ⟨B + 1 + 1 + 1,0,none⟩=false
 f6:W.frozen? ⟨B + 1 + 1 + 1 + 1,0,none⟩=false
 sz:B + 5 < W.heap.size
 ok:∀ x∈l,okT most x
structure NearX (B:Nat) (W:World):Prop where
 c4:W.cell? ⟨B + 1 + 1,0,none⟩=some (.int .i64 0)
 c5:W.cell? ⟨B + 1 + 1 + 1,0,none⟩=some (.int .i64 0)
 c6:W.cell? ⟨B + 1 + 1 + 1 + 1,0,none⟩=some (.bool false)
theorem NearI.below {B:Nat} {most:Int} {l:List (Int×Int)} {W W':World} (h:NearI B most l W) (hb:Below W.heap.size W W'):NearI B most l W' :=
 ⟨(hb.cell (block_lt_of_cell h.c3)).trans h.c3,(hb.cell (block_lt_of_cell h.c4)).trans h.c4,(hb.cell (block_lt_of_cell h.c5)).trans h.c5,(hb.cell (block_lt_of_cell h.c6)).trans h.c6,
  (hb.frozen (block_lt_of_cell h.c4)).trans h.f4,(hb.frozen (block_lt_of_cell h.c5)).trans h.f5,(hb.frozen (block_lt_of_cell h.c6)).trans h.f6,Nat.lt_of_lt_of_le h.sz hb.size,h.ok⟩
theorem NearI.kept {B:Nat} {most:Int} {l:List (Int×Int)} {W W':World} {row:Option Nat} (h:NearI B most l W) (hg:W.grownBy W' row) (hr:∀ r,row=some r→∃ o:Obj,W.heap[r]?=some o∧o.isCells=false):NearI B most l W' :=
 ⟨cell_kept h.c3 hg hr,cell_kept h.c4 hg hr,cell_kept h.c5 hg hr,cell_kept h.c6 hg hr,(frozen_kept h.c4 hg hr).trans h.f4,(frozen_kept h.c5 hg hr).trans h.f5,(frozen_kept h.c6 hg hr).trans h.f6,Nat.lt_of_lt_of_le h.sz hg.size,h.ok⟩
theorem NearX.kept {B:Nat} {W W':World} {row:Option Nat} (h:NearX B W) (hg:W.grownBy W' row) (hr:∀ r,row=some r→∃ o:Obj,W.heap[r]?=some o∧o.isCells=false):NearX B W' :=
 ⟨cell_kept h.c4 hg hr,cell_kept h.c5 hg hr,cell_kept h.c6 hg hr⟩
theorem NearI.quits {B:Nat} {most:Int} {l:List (Int×Int)} {W:World} (h:NearI B most l W):NearX B (((W.setCell ⟨B + 1 + 1,0,none⟩ (.int .i64 0)).setCell ⟨B + 1 + 1 + 1,0,none⟩ (.int .i64 0)).setCell ⟨B + 1 + 1 + 1 + 1,0,none⟩ (.bool false)):=by
 refine ⟨?_,?_,?_⟩
 ·rw [World.cell?_setCell_other _ _ _ _ (by simp),World.cell?_setCell_other _ _ _ _ (by simp),World.cell?_setCell_same _ _ _ h.c4]
 ·rw [World.cell?_setCell_other _ _ _ _ (by simp),World.cell?_setCell_same _ _ _ (by rw [World.cell?_setCell_other _ _ _ _ (by simp)]; exact h.c5)]
 ·rw [World.cell?_setCell_same _ _ _ (by rw [World.cell?_setCell_other _ _ _ _ (by simp),World.cell?_setCell_other _ _ _ _ (by simp)]; exact h.c6)]
theorem NearI.stored {B:Nat} {most:Int} {l l':List (Int×Int)} {W:World} (h:NearI B most l W) {v5 v6:Int} (h5:lowT l'=v5) (h6:highT l'=v6) (ok:∀ x∈l',okT most x) :
  NearI B most l' ((W.setCell ⟨B + 1 + 1,0,none⟩ (.int .i64 v5)).setCell ⟨B + 1 + 1 + 1,0,none⟩ (.int .i64 v6)):=by
 refine ⟨?_,?_,?_,?_,?_,?_,?_,?_,ok⟩
 ·rw [World.cell?_setCell_other _ _ _ _ (by simp),World.cell?_setCell_other _ _ _ _ (by simp)]; exact h.c3
 ·rw [World.cell?_setCell_other _ _ _ _ (by simp),World.cell?_setCell_same _ _ _ h.c4,h5]
 ·rw [World.cell?_setCell_same _ _ _ (by rw [World.cell?_setCell_other _ _ _ _ (by simp)]; exact h.c5),h6]
 ·rw [World.cell?_setCell_other _ _ _ _ (by simp),World.cell?_setCell_other _ _ _ _ (by simp)]; exact h.c6
 ·rw [World.frozen?_setCell,World.frozen?_setCell]; exact h.f4
 ·rw [World.frozen?_setCell,World.frozen?_setCell]; exact h.f5
 ·rw [World.frozen?_setCell,World.frozen?_setCell]; exact h.f6
 ·have:=h.sz; simpa using this
theorem near_kt {B:Nat} {W0 W W4:World} (hB:W0.heap.size=B) (hb:Below W0.heap.size W0 W) (hsz:B + 5 < W.heap.size) (h:Below W.heap.size W W4) (v5 v6:Value) :
  KT B (B + 5) W ((W4.setCell ⟨B + 1 + 1,0,none⟩ v5).setCell ⟨B + 1 + 1 + 1,0,none⟩ v6):=by
 subst hB
 refine ⟨((h.mono hb.size).setCell (p:=⟨W0.heap.size + 1 + 1,0,none⟩) (by show _≤W0.heap.size + 1 + 1; omega) _).setCell (p:=⟨W0.heap.size + 1 + 1 + 1,0,none⟩) (by show _≤W0.heap.size + 1 + 1 + 1; omega) _,?_⟩
 rw [obj_other (g:=W0.heap.size + 1 + 1 + 1) (k:=W0.heap.size + 5) (by omega),obj_other (g:=W0.heap.size + 1 + 1) (k:=W0.heap.size + 5) (by omega),h.block _ hsz]
theorem near_below {W0 W:World} (hb:Below W0.heap.size W0 W) (v5 v6:Value):Below W0.heap.size W0 ((W.setCell ⟨W0.heap.size + 1 + 1,0,none⟩ v5).setCell ⟨W0.heap.size + 1 + 1 + 1,0,none⟩ v6) :=
 (hb.setCell (p:=⟨W0.heap.size + 1 + 1,0,none⟩) (by show _≤W0.heap.size + 1 + 1; omega) _).setCell (p:=⟨W0.heap.size + 1 + 1 + 1,0,none⟩) (by show _≤W0.heap.size + 1 + 1 + 1; omega) _
def nearAct (w:World) (b1 b2:Option Addr) (d1 d2 D m:Nat) (most:Int) (p:Int) (k:ByteArray):Act:={ tmps := #[.agg (tcells b1 d1 b2 d2 m D),.int .i64 most,.pointer (some ⟨w.heap.size,0,none⟩),.pointer (some ⟨w.heap.size + 1,0,none⟩),.pointer (some ⟨w.heap.size + 1 + 1,0,none⟩),.pointer (some ⟨w.heap.size + 1 + 1 + 1,0,none⟩),.pointer (some ⟨w.heap.size + 1 + 1 + 1 + 1,0,none⟩),.int .i64 p,.string k,undef,undef,undef,undef,undef,.agg #[.slice b1 m d1,.slice b2 m d2,.string (dec D)],.func (.func 161) #[] #[.pointer (some ⟨w.heap.size + 1 + 1 + 1 + 1 + 1,0,none⟩)],.int .i64 p,.string k,undef,undef,undef,undef,undef,undef,undef,undef,undef,undef,undef,undef,undef,undef,undef,undef,undef,undef,undef,undef,undef,undef,undef,undef,undef,undef,undef,undef,undef,undef,undef,undef,undef,undef,undef,undef,undef,undef,undef,undef,undef,undef,undef,undef,undef,undef,undef,undef,undef,undef],defers:=[] }
theorem lowT_snoc (l:List (Int×Int)) (x:Int×Int):lowT (l ++ [x])=lowT l + min (x.2 * lgA x.1) (x.2 * lgB x.1):=by simp [lowT]
theorem highT_snoc (l:List (Int×Int)) (x:Int×Int):highT (l ++ [x])=highT l + max (x.2 * lgA x.1) (x.2 * lgB x.1):=by simp [highT]
theorem lgA_le (p:Int) (h1:2≤p) (h2:p≤97):0≤lgA p∧lgA p≤469762048:=by
 unfold lgA
 cases hq:digs p.toNat 62 26 with
 | none=>exact ⟨Int.le_refl _,by decide⟩
 | some s =>
  have hfit:=(digs_fit p.toNat (by omega) (by omega) 26 s hq).out
  have:(2:Nat) ^ 26=67108864:=rfl
  simp only
  omega
theorem prod_le {k a:Int} (hk : -10000000≤k∧k≤10000000) (ha:0≤a∧a≤469762049) : -4697620490000000≤k * a∧k * a≤4697620490000000:=by
 have h:(k * a).natAbs≤10000000 * 469762049:=by rw [Int.natAbs_mul]; exact Nat.mul_le_mul (by omega) (by omega)
 omega
theorem term_le {most:Int} (hm:most≤10000000) {x:Int×Int} (hx:okT most x) (hp:2≤x.1∧x.1≤97) :
  (-4697620490000000≤x.2 * lgA x.1∧x.2 * lgA x.1≤4697620490000000)∧(-4697620490000000≤x.2 * lgB x.1∧x.2 * lgB x.1≤4697620490000000):=by
 have ha:=lgA_le x.1 hp.1 hp.2
 have hk:=hx.1
 refine ⟨prod_le (by omega) (by omega),prod_le (by omega) ?_⟩
 unfold lgB
 split <;> omega
theorem sums_le {most:Int} (hm:most≤10000000):∀ (l:List (Int×Int)),(∀ x∈l,okT most x∧2≤x.1∧x.1≤97) →
  (-((l.length:Int) * 4697620490000000)≤lowT l∧lowT l≤(l.length:Int) * 4697620490000000)∧(-((l.length:Int) * 4697620490000000)≤highT l∧highT l≤(l.length:Int) * 4697620490000000)
 | [],_=>⟨⟨Int.le_refl _,Int.le_refl _⟩,⟨Int.le_refl _,Int.le_refl _⟩⟩
 | x :: l,h=>by
  have ih:=sums_le hm l (fun y hy=>h y (List.mem_cons_of_mem _ hy))
  have hx:=h x (List.mem_cons_self ..)
  have ht:=term_le hm hx.1 hx.2
  have e1:lowT (x :: l)=min (x.2 * lgA x.1) (x.2 * lgB x.1) + lowT l:=by simp [lowT]
  have e2:highT (x :: l)=max (x.2 * lgA x.1) (x.2 * lgB x.1) + highT l:=by simp [highT]
  rw [e1,e2,List.length_cons]
  omega
set_option maxRecDepth 100000 in
set_option maxHeartbeats 8000000 in
theorem near_any (w:World) (b1 b2:Option Addr) (d1 d2 D:Nat) (tl:List (Int×Int)) (most:Int) (hm0:0≤most) (hm:most≤10000000) (hl:tl.length≤1000)
  (hr1:Rd w b1 (ints (tl.map Prod.fst))) (hr2:Rd w b2 (strs (tl.map fun x=>itx x.2))) (hp:∀ x∈tl,2≤x.1∧x.1≤97) (hz:∀ x∈tl,ZNum x.2) (L:Laid w) :
  Gives Tryz.prog 134 #[.agg (tcells b1 d1 b2 d2 tl.length D),.int .i64 most] w (nearV most tl):=by
 unfold Gives
 refine (callsIn_wide (n:=3)).1 ?_
 refine callsIn_of_wp_marks Tryz.func134 rfl trivial ?_ rfl
 simp only [Tryz.ntmps134,List.size_toArray,List.length_cons,List.length_nil,Nat.reduceAdd,Nat.reduceSub,Array.replicate_succ,Array.replicate_zero,List.push_toArray,List.append_toArray,List.nil_append,List.cons_append]
 have Hsz:Hid (∀ x∈tl,∀ W,Below w.heap.size w W→Gives Tryz.prog 110 #[.string (itx x.2)] W (if -9223372036854775808≤x.2∧x.2≤9223372036854775807 then .tuple #[.int .i64 x.2,.bool true] else .tuple #[.int .i64 0,.bool false])):=fun x hx W hW=>smallz_any W x.2 (hz x hx) (L.below hW)
 have Hfa:Hid (∀ x∈tl,∀ W,Gives Tryz.prog 160 #[.int .i64 x.1] W (fastV x.1.toNat)):=fun x hx W=>by
  have h1:=hp x hx
  obtain ⟨q,hq⟩:=Int.eq_ofNat_of_zero_le (show 0≤x.1 by omega)
  have:=fast_any W q (by omega) (by omega)
  rw [hq]
  exact this
 clear L hz
 gi_wp2_with fail
 obtain ⟨w0,hw0⟩:∃ w0,((((w.alloc (Obj.cells (tcells b1 d1 b2 d2 tl.length D) 103)).alloc (Obj.cells #[Value.int IntKind.i64 most] 3)).alloc (Obj.cells #[Value.int IntKind.i64 0] 3)).alloc (Obj.cells #[Value.int IntKind.i64 0] 3)).alloc (Obj.cells #[Value.bool false] 4)=w0:=⟨_,rfl⟩
 have hsz0:w0.heap.size=w.heap.size + 5:=by rw [← hw0]; simp
 have hB0:Below w.heap.size w w0:=by rw [← hw0]; exact (((((Below.refl _ w).alloc nr_ _).alloc (by simp) _).alloc (by simp; omega) _).alloc (by simp; omega) _).alloc (by simp; omega) _
 have hbox:=boxes5 w _ _ _ _ _ _ _ _ _ w0 hw0
 rw [hw0]
 refine ⟨trivial,?_⟩
 refine (callsIn_wide.2 (all_any w0 b1 b2 d1 d2 tl.length D)).mono ?_
 rintro e w' ⟨rfl,rfl⟩
 rw [hsz0]
 have hB5:(w0.alloc (.cells (tcells b1 d1 b2 d2 tl.length D) 103)).heap[w.heap.size + 5]?=some (.cells (tcells b1 d1 b2 d2 tl.length D) 103 (0,0)):=by
  rw [← hsz0]; exact Go.heap_alloc_new w0 _
 have hB1:Below w.heap.size w (w0.alloc (.cells (tcells b1 d1 b2 d2 tl.length D) 103)):=hB0.alloc (by omega) _
 have hsz1:(w0.alloc (.cells (tcells b1 d1 b2 d2 tl.length D) 103)).heap.size=w.heap.size + 6:=by rw [World.size_alloc,hsz0]
 have hI1:NearI w.heap.size most [] (w0.alloc (.cells (tcells b1 d1 b2 d2 tl.length D) 103)):=by
  obtain ⟨h1,h2,h3,h4⟩:=hbox
  have h1:=heap_old h1 (.cells (tcells b1 d1 b2 d2 tl.length D) 103)
  have h2:=heap_old h2 (.cells (tcells b1 d1 b2 d2 tl.length D) 103)
  have h3:=heap_old h3 (.cells (tcells b1 d1 b2 d2 tl.length D) 103)
  have h4:=heap_old h4 (.cells (tcells b1 d1 b2 d2 tl.length D) 103)
  exact ⟨(one_cell h1).1,(one_cell h2).1,(one_cell h3).1,(one_cell h4).1,(one_cell h2).2,(one_cell h3).2,(one_cell h4).2,by rw [hsz1]; omega,fun x hx=>by cases hx⟩
 clear hB0 hw0 hbox
 generalize w0.alloc (.cells (tcells b1 d1 b2 d2 tl.length D) 103)=w1 at *
 gi_wp2_with fail
 refine wpIn_rangeFunc_ownF rfl (by decide) (gf:=161) (lb := #[.pointer (some ⟨w.heap.size + 5,0,none⟩)]) rfl trivial (enters_of Tryz.func161 (by kernel_rfl) rfl)
  (all_stops 2 (by decide) w w1 hB1 (w.heap.size + 5) b1 b2 d1 d2 D tl hl hB5 hr1 hr2) kt_t (kt_b (by rw [hsz1]; omega) (by rw [hsz1]; omega)) (Below.refl _ _) (fun _=>rfl)
  (fun pre W=>NearI w.heap.size most (pre.map Subtype.val) W∧Below w.heap.size w W)
  (fun c pre W=>(c = .ret∧(∃ x∈tl,¬ okT most x)∧NearX w.heap.size W)∧Below w.heap.size w W)
  (OwnFrom.and (Own.from (fun s A B row hs hg hr=>hs.kept hg hr) _) (ownFrom_below nr_ (by rw [hsz1]; omega)))
  (fun c=>OwnFrom.and (Own.from (fun s A B row hs hg hr=>⟨hs.1,hs.2.1,hs.2.2.kept hg hr⟩) _) (ownFrom_below nr_ (by rw [hsz1]; omega)))
  ⟨hI1,hB1⟩
  (fun x=>nearAct w b1 b2 d1 d2 D tl.length most x.1.1 (itx x.1.2)) ?assign ?body ?done ?stop
 case assign =>
  intro l x W K hK
  unfold nearAct at hK
  gi_wp2
  exact hK
 case body =>
  rintro l pre ⟨⟨p,k⟩,hmem⟩ W ⟨hI,hB⟩ hlen
  have HI:=Lib.hid hI
  have HB:=Lib.hid hB
  have hpp:=hp _ hmem
  have hsm:=Hsz.out _ hmem W hB
  have hfa:=Hfa.out _ hmem
  simp only at hpp hsm hfa
  have Hmem:=Lib.hid hmem
  unfold nearAct
  clear hI hB hr1 hr2 hI1 hB1 hB5
  have hc3:=HI.out.c3
  have hc4:=HI.out.c4
  have hc5:=HI.out.c5
  have hc6:=HI.out.c6
  have hf4:=HI.out.f4
  have hf5:=HI.out.f5
  have hf6:=HI.out.f6
  by_cases hk64 : -9223372036854775808≤k∧k≤9223372036854775807
  ·rw [if_pos hk64] at hsm
   have hneg:IntKind.i64.wrap (-most) = -most:=IntWalk.i64_in _ (by omega)
   by_cases hk1:k≤most
   ·by_cases hk2 : -most≤k
    ·have hfa2:∀ W,Gives Tryz.prog 160 #[.int .i64 p] W (fastV p.toNat):=hfa
     by_cases hd:(digs p.toNat 62 26).isSome=true
     ·obtain ⟨ds,hds⟩:=Option.isSome_iff_exists.1 hd
      have Hds:=Lib.hid hds
      have Hok:Hid (okT most (p,k)):=⟨⟨hk2,hk1⟩,hd⟩
      have hfv:fastV p.toNat = .tuple #[.int .i64 ds.2.2,.bool true]:=by unfold fastV; rw [hds]
      rw [hfv] at hfa2
      have Hlg:Hid (lgA p=(ds.2.2:Int)):=by show _=_; unfold lgA; rw [hds]
      have hfit:=(digs_fit p.toNat (by omega) (by omega) 26 ds hds).out
      have hout:ds.2.2≤469762048:=by have:(2:Nat) ^ 26=67108864:=rfl; omega
      have hpl:(pre.map Subtype.val).length≤1000:=by rw [List.length_map]; omega
      have hso:=sums_le hm (pre.map Subtype.val) (fun x hx=>⟨HI.out.ok x hx,by
       obtain ⟨y,_,rfl⟩:=List.mem_map.1 hx
       exact hp _ y.2⟩)
      have hterm:=term_le hm Hok.out hpp
      simp only at hterm
      have Hsn1:Hid (lowT ((pre ++ [(⟨(p,k),hmem⟩:{x // x∈tl})]).map Subtype.val)=lowT (pre.map Subtype.val) + min (k * lgA p) (k * lgB p)):=by
       show _=_
       rw [List.map_append]; exact lowT_snoc _ _
      have Hsn2:Hid (highT ((pre ++ [(⟨(p,k),hmem⟩:{x // x∈tl})]).map Subtype.val)=highT (pre.map Subtype.val) + max (k * lgA p) (k * lgB p)):=by
       show _=_
       rw [List.map_append]; exact highT_snoc _ _
      have Hall:Hid (∀ x∈(pre ++ [(⟨(p,k),hmem⟩:{x // x∈tl})]).map Subtype.val,okT most x):=fun x hx=>by
       rw [List.map_append] at hx
       rcases List.mem_append.1 hx with h | h
       ·exact HI.out.ok x h
       ·obtain rfl:=List.mem_singleton.1 h; exact Hok.out
      have hlB:lgB p=if p=2 then (ds.2.2:Int) else (ds.2.2:Int) + 1:=by unfold lgB; rw [Hlg.out]
      rw [Hlg.out] at hterm
      rw [Hlg.out] at Hsn1 Hsn2
      have hk1':¬ most < k:=by omega
      have hk2':¬ k < -most:=by omega
      have hwb:IntKind.i64.wrap ((ds.2.2:Int) + 1)=(ds.2.2:Int) + 1:=IntWalk.i64_in _ (by omega)
      clear hd hds hfv hfit hfa hlen hk64
      by_cases hp2:p=2
      ·rw [if_pos hp2] at hlB
       subst hp2
       rw [hlB] at hterm Hsn1 Hsn2
       rw [Int.min_self] at Hsn1
       rw [Int.max_self] at Hsn2
       have hw1:IntKind.i64.wrap (k * (ds.2.2:Int))=k * (ds.2.2:Int):=IntWalk.i64_in _ (by omega)
       clear hlB
       generalize (ds.2.2:Int)=A at *
       obtain ⟨lo,hlo⟩:∃ lo,lowT (pre.map Subtype.val)=lo:=⟨_,rfl⟩
       obtain ⟨hi,hhi⟩:∃ hi,highT (pre.map Subtype.val)=hi:=⟨_,rfl⟩
       rw [hlo] at hso Hsn1
       rw [hhi] at hso Hsn2
       have Hlo:=Lib.hid hlo
       have Hhi:=Lib.hid hhi
       clear hlo hhi
       have hw3:IntKind.i64.wrap (lo + k * A)=lo + k * A:=IntWalk.i64_in _ (by omega)
       have hw4':IntKind.i64.wrap (hi + k * A)=hi + k * A:=IntWalk.i64_in _ (by omega)
       have Hterm:=Lib.hid hterm
       have Hso:=Lib.hid hso
       gi_wp2_with fail
       refine ⟨trivial,?_⟩
       refine (CallsIn.inRound l (callsIn_wide.2 hsm)).mono ?_
       rintro e w2 ⟨rfl,hb2⟩
       have HI2:=Lib.hid (HI.out.below hb2)
       have HB2:=Lib.hid (HB.out.trans (hb2.mono HB.out.size))
       have Hk2:=Lib.hid (hb2)
       have hc3:=HI2.out.c3
       have hc4:=HI2.out.c4
       have hc5:=HI2.out.c5
       have hc6:=HI2.out.c6
       have hf4:=HI2.out.f4
       have hf5:=HI2.out.f5
       have hf6:=HI2.out.f6
       clear hsm hb2
       gi_wp2_with fail
       refine ⟨trivial,?_⟩
       refine (CallsIn.inRound l (callsIn_wide.2 (hfa2 w2))).mono ?_
       rintro e w3 ⟨rfl,hb3⟩
       have HI3:=Lib.hid (HI2.out.below hb3)
       have HB3:=Lib.hid (HB2.out.trans (hb3.mono HB2.out.size))
       have Hk3:=Lib.hid (Hk2.out.trans (hb3.mono Hk2.out.size))
       have hc3:=HI3.out.c3
       have hc4:=HI3.out.c4
       have hc5:=HI3.out.c5
       have hc6:=HI3.out.c6
       have hf4:=HI3.out.f4
       have hf5:=HI3.out.f5
       have hf6:=HI3.out.f6
       clear hfa2 hb3
       gi_wp2_with fail
       have q0:=@CellW.h
       have q9:Nonempty (CellW ⟨w.heap.size + 1 + 1,0,none⟩ (.int .i64 lo)):=⟨⟨w3,by rw [HI3.out.c4,Hlo.out]⟩⟩
       have q8:Nonempty (CellW ⟨w.heap.size + 1 + 1 + 1,0,none⟩ (.int .i64 hi)):=⟨⟨w3,by rw [HI3.out.c5,Hhi.out]⟩⟩
       refine wpIn_region_readers2 [(20,0),(1,1),(1,2),(1,3),(1,4),(1,5),(1,6),(1,7),(1,8),(21,9),(1,10),(1,11),(1,12),(1,13),(1,14),(1,15),(1,16),(1,17),(0,18),(0,19)]
        [(18,fun w'=>∃ p:CellW ⟨w.heap.size + 1 + 1,0,none⟩ (.int .i64 lo),w'=p.w),(19,fun w'=>∃ p:CellW ⟨w.heap.size + 1 + 1 + 1,0,none⟩ (.int .i64 hi),w'=p.w)]
        (by kernel_rfl) (by kernel_rfl) ⟨.inr ⟨⟨{ w3 with drawn:=w3.drawn + 1 },HI3.out.c4.trans (by rw [Hlo.out])⟩,rfl⟩,.inr ⟨⟨{ w3 with drawn:=w3.drawn + 1 },HI3.out.c5.trans (by rw [Hhi.out])⟩,rfl⟩,trivial⟩ ?_
       refine walkR2_read (s:=18) _ (List.mem_cons_self ..) rfl ?_
       simp only [dz_,tsc_,tz_]
       go_big_quiet_step (fail)
       refine wpQuiet_nil ?_
       iterate 8 (refine walkR2_any ?_; simp only [dsc_,dz_,tsc_,tz_]; go_big_quiet_step (fail); refine wpQuiet_nil ?_)
       refine walkR2_read (s:=19) _ (List.mem_cons_of_mem _ (List.mem_cons_self ..)) rfl ?_
       simp only [dsc_,dz_,tsc_,tz_]
       go_big_quiet_step (fail)
       refine wpQuiet_nil ?_
       iterate 8 (refine walkR2_any ?_; simp only [dsc_,dz_,tsc_,tz_]; go_big_quiet_step (fail); refine wpQuiet_nil ?_)
       clear q0 q8 q9
       obtain ⟨w4,hw4⟩:∃ w4:World,{ heap:=w3.heap,tape:=w3.tape,drawn:=w3.drawn + 1,os:=w3.os,output:=w3.output }=w4:=⟨_,rfl⟩
       rw [hw4]
       have HI4:Hid (NearI w.heap.size most (pre.map Subtype.val) w4):=by rw [← hw4]; exact HI3.out.below ⟨rfl,rfl,rfl,Nat.le_refl _,fun _ _=>rfl⟩
       have HB4:Hid (Below w.heap.size w w4):=by rw [← hw4]; exact HB3.out.trans ⟨rfl,rfl,rfl,Nat.le_refl _,fun _ _=>rfl⟩
       have Hk4:Hid (Below W.heap.size W w4):=by rw [← hw4]; exact Hk3.out.trans ⟨rfl,rfl,rfl,Nat.le_refl _,fun _ _=>rfl⟩
       clear hw4 hc3 hc4 hc5 hc6 hf4 hf5 hf6
       have hc4:=HI4.out.c4
       have hc5:=HI4.out.c5
       have hf4:=HI4.out.f4
       have hf5:=HI4.out.f5
       refine walkR2_move ?_
       simp only [dsc_,dz_,tsc_,tz_]
       go_wp2_with fail
       obtain ⟨v5,hv5⟩:∃ v5:Int,lo + k * A=v5:=⟨_,rfl⟩
       obtain ⟨v6,hv6⟩:∃ v6:Int,hi + k * A=v6:=⟨_,rfl⟩
       rw [hv5]
       rw [hv6]
       have hc52:(w4.setCell ⟨w.heap.size + 1 + 1,0,none⟩ (.int .i64 v5)).cell? ⟨w.heap.size + 1 + 1 + 1,0,none⟩=some (.int .i64 hi):=by
        rw [World.cell?_setCell_other _ _ _ _ (by simp),HI4.out.c5,Hhi.out]
       have hf52:(w4.setCell ⟨w.heap.size + 1 + 1,0,none⟩ (.int .i64 v5)).frozen? ⟨w.heap.size + 1 + 1 + 1,0,none⟩=false:=by rw [World.frozen?_setCell]; exact HI4.out.f5
       refine ⟨⟨.inl rfl,.inr ⟨⟨w4.setCell ⟨w.heap.size + 1 + 1,0,none⟩ (.int .i64 v5),hc52⟩,rfl⟩,trivial⟩,?_⟩
       clear hc4 hc5 hf4 hf5
       refine walkR2_move ?_
       simp only [dsc_,dz_,tsc_,tz_]
       go_wp2_with fail
       refine ⟨⟨.inl rfl,.inl rfl,trivial⟩,?_⟩
       simp only [walkR2]
       exact ⟨(keeps_of_below Hk4.out).trans ((KeepsOthers.setCell _ _ _).trans (KeepsOthers.setCell _ _ _)),near_kt rfl HB.out HI.out.sz Hk4.out _ _,HI4.out.stored (Hsn1.out.trans hv5) (Hsn2.out.trans hv6) Hall.out,near_below HB4.out _ _⟩
      ·rw [if_neg hp2] at hlB
       rw [hlB] at hterm Hsn1 Hsn2
       have hpe:(p == 2)=false:=by rw [beq_eq_false_iff_ne]; exact hp2
       have hw1:IntKind.i64.wrap (k * (ds.2.2:Int))=k * (ds.2.2:Int):=IntWalk.i64_in _ (by omega)
       have hw2:IntKind.i64.wrap (k * ((ds.2.2:Int) + 1))=k * ((ds.2.2:Int) + 1):=IntWalk.i64_in _ (by omega)
       clear hlB
       generalize (ds.2.2:Int)=A at *
       obtain ⟨lo,hlo⟩:∃ lo,lowT (pre.map Subtype.val)=lo:=⟨_,rfl⟩
       obtain ⟨hi,hhi⟩:∃ hi,highT (pre.map Subtype.val)=hi:=⟨_,rfl⟩
       rw [hlo] at hso Hsn1
       rw [hhi] at hso Hsn2
       have Hlo:=Lib.hid hlo
       have Hhi:=Lib.hid hhi
       clear hlo hhi
       have hw3:IntKind.i64.wrap (lo + min (k * A) (k * (A + 1)))=lo + min (k * A) (k * (A + 1)):=IntWalk.i64_in _ (by omega)
       have hw4':IntKind.i64.wrap (hi + max (k * A) (k * (A + 1)))=hi + max (k * A) (k * (A + 1)):=IntWalk.i64_in _ (by omega)
       have Hterm:=Lib.hid hterm
       have Hso:=Lib.hid hso
       gi_wp2_with fail
       refine ⟨trivial,?_⟩
       refine (CallsIn.inRound l (callsIn_wide.2 hsm)).mono ?_
       rintro e w2 ⟨rfl,hb2⟩
       have HI2:=Lib.hid (HI.out.below hb2)
       have HB2:=Lib.hid (HB.out.trans (hb2.mono HB.out.size))
       have Hk2:=Lib.hid (hb2)
       have hc3:=HI2.out.c3
       have hc4:=HI2.out.c4
       have hc5:=HI2.out.c5
       have hc6:=HI2.out.c6
       have hf4:=HI2.out.f4
       have hf5:=HI2.out.f5
       have hf6:=HI2.out.f6
       clear hsm hb2
       gi_wp2_with fail
       refine ⟨trivial,?_⟩
       refine (CallsIn.inRound l (callsIn_wide.2 (hfa2 w2))).mono ?_
       rintro e w3 ⟨rfl,hb3⟩
       have HI3:=Lib.hid (HI2.out.below hb3)
       have HB3:=Lib.hid (HB2.out.trans (hb3.mono HB2.out.size))
       have Hk3:=Lib.hid (Hk2.out.trans (hb3.mono Hk2.out.size))
       have hc3:=HI3.out.c3
       have hc4:=HI3.out.c4
       have hc5:=HI3.out.c5
       have hc6:=HI3.out.c6
       have hf4:=HI3.out.f4
       have hf5:=HI3.out.f5
       have hf6:=HI3.out.f6
       clear hfa2 hb3
       gi_wp2_with fail
       have q0:=@CellW.h
       have q9:Nonempty (CellW ⟨w.heap.size + 1 + 1,0,none⟩ (.int .i64 lo)):=⟨⟨w3,by rw [HI3.out.c4,Hlo.out]⟩⟩
       have q8:Nonempty (CellW ⟨w.heap.size + 1 + 1 + 1,0,none⟩ (.int .i64 hi)):=⟨⟨w3,by rw [HI3.out.c5,Hhi.out]⟩⟩
       refine wpIn_region_readers2 [(20,0),(1,1),(1,2),(1,3),(1,4),(1,5),(1,6),(1,7),(1,8),(21,9),(1,10),(1,11),(1,12),(1,13),(1,14),(1,15),(1,16),(1,17),(0,18),(0,19)]
        [(18,fun w'=>∃ p:CellW ⟨w.heap.size + 1 + 1,0,none⟩ (.int .i64 lo),w'=p.w),(19,fun w'=>∃ p:CellW ⟨w.heap.size + 1 + 1 + 1,0,none⟩ (.int .i64 hi),w'=p.w)]
        (by kernel_rfl) (by kernel_rfl) ⟨.inr ⟨⟨{ w3 with drawn:=w3.drawn + 1 },HI3.out.c4.trans (by rw [Hlo.out])⟩,rfl⟩,.inr ⟨⟨{ w3 with drawn:=w3.drawn + 1 },HI3.out.c5.trans (by rw [Hhi.out])⟩,rfl⟩,trivial⟩ ?_
       refine walkR2_read (s:=18) _ (List.mem_cons_self ..) rfl ?_
       simp only [dz_,tsc_,tz_]
       go_big_quiet_step (fail)
       refine wpQuiet_nil ?_
       iterate 8 (refine walkR2_any ?_; simp only [dsc_,dz_,tsc_,tz_]; go_big_quiet_step (fail); refine wpQuiet_nil ?_)
       refine walkR2_read (s:=19) _ (List.mem_cons_of_mem _ (List.mem_cons_self ..)) rfl ?_
       simp only [dsc_,dz_,tsc_,tz_]
       go_big_quiet_step (fail)
       refine wpQuiet_nil ?_
       iterate 8 (refine walkR2_any ?_; simp only [dsc_,dz_,tsc_,tz_]; go_big_quiet_step (fail); refine wpQuiet_nil ?_)
       clear q0 q8 q9
       obtain ⟨w4,hw4⟩:∃ w4:World,{ heap:=w3.heap,tape:=w3.tape,drawn:=w3.drawn + 1,os:=w3.os,output:=w3.output }=w4:=⟨_,rfl⟩
       rw [hw4]
       have HI4:Hid (NearI w.heap.size most (pre.map Subtype.val) w4):=by rw [← hw4]; exact HI3.out.below ⟨rfl,rfl,rfl,Nat.le_refl _,fun _ _=>rfl⟩
       have HB4:Hid (Below w.heap.size w w4):=by rw [← hw4]; exact HB3.out.trans ⟨rfl,rfl,rfl,Nat.le_refl _,fun _ _=>rfl⟩
       have Hk4:Hid (Below W.heap.size W w4):=by rw [← hw4]; exact Hk3.out.trans ⟨rfl,rfl,rfl,Nat.le_refl _,fun _ _=>rfl⟩
       clear hw4 hc3 hc4 hc5 hc6 hf4 hf5 hf6
       have hc4:=HI4.out.c4
       have hc5:=HI4.out.c5
       have hf4:=HI4.out.f4
       have hf5:=HI4.out.f5
       refine walkR2_move ?_
       simp only [dsc_,dz_,tsc_,tz_]
       go_wp2_with fail
       obtain ⟨v5,hv5⟩:∃ v5:Int,lo + min (k * A) (k * (A + 1))=v5:=⟨_,rfl⟩
       obtain ⟨v6,hv6⟩:∃ v6:Int,hi + max (k * A) (k * (A + 1))=v6:=⟨_,rfl⟩
       rw [hv5]
       rw [hv6]
       have hc52:(w4.setCell ⟨w.heap.size + 1 + 1,0,none⟩ (.int .i64 v5)).cell? ⟨w.heap.size + 1 + 1 + 1,0,none⟩=some (.int .i64 hi):=by
        rw [World.cell?_setCell_other _ _ _ _ (by simp),HI4.out.c5,Hhi.out]
       have hf52:(w4.setCell ⟨w.heap.size + 1 + 1,0,none⟩ (.int .i64 v5)).frozen? ⟨w.heap.size + 1 + 1 + 1,0,none⟩=false:=by rw [World.frozen?_setCell]; exact HI4.out.f5
       refine ⟨⟨.inl rfl,.inr ⟨⟨w4.setCell ⟨w.heap.size + 1 + 1,0,none⟩ (.int .i64 v5),hc52⟩,rfl⟩,trivial⟩,?_⟩
       clear hc4 hc5 hf4 hf5
       refine walkR2_move ?_
       simp only [dsc_,dz_,tsc_,tz_]
       go_wp2_with fail
       refine ⟨⟨.inl rfl,.inl rfl,trivial⟩,?_⟩
       simp only [walkR2]
       exact ⟨(keeps_of_below Hk4.out).trans ((KeepsOthers.setCell _ _ _).trans (KeepsOthers.setCell _ _ _)),near_kt rfl HB.out HI.out.sz Hk4.out _ _,HI4.out.stored (Hsn1.out.trans hv5) (Hsn2.out.trans hv6) Hall.out,near_below HB4.out _ _⟩
     ·have Hbad:Hid (∃ x∈tl,¬ okT most x):=⟨(p,k),Hmem.out,fun h=>hd h.2⟩
      have hfv:fastV p.toNat = .tuple #[.int .i64 0,.bool false]:=by
       unfold fastV
       cases hq:digs p.toNat 62 26 with
       | none=>rfl
       | some s=>rw [hq] at hd; exact absurd rfl hd
      rw [hfv] at hfa2
      have hk1':¬ most < k:=by omega
      have hk2':¬ k < -most:=by omega
      clear hd hfv hfa
      gi_wp2_with fail
      refine ⟨trivial,?_⟩
      refine (CallsIn.inRound l (callsIn_wide.2 hsm)).mono ?_
      rintro e w2 ⟨rfl,hb2⟩
      have HI2:=Lib.hid (HI.out.below hb2)
      have HB2:=Lib.hid (HB.out.trans (hb2.mono HB.out.size))
      have Hk2:=Lib.hid (hb2)
      have hc3:=HI2.out.c3
      have hc4:=HI2.out.c4
      have hc5:=HI2.out.c5
      have hc6:=HI2.out.c6
      have hf4:=HI2.out.f4
      have hf5:=HI2.out.f5
      have hf6:=HI2.out.f6
      clear hsm hb2
      gi_wp2_with fail
      refine ⟨trivial,?_⟩
      refine (CallsIn.inRound l (callsIn_wide.2 (hfa2 w2))).mono ?_
      rintro e w3 ⟨rfl,hb3⟩
      have HI3:=Lib.hid (HI2.out.below hb3)
      have HB3:=Lib.hid (HB2.out.trans (hb3.mono HB2.out.size))
      have Hk3:=Lib.hid (Hk2.out.trans (hb3.mono Hk2.out.size))
      have hc3:=HI3.out.c3
      have hc4:=HI3.out.c4
      have hc5:=HI3.out.c5
      have hc6:=HI3.out.c6
      have hf4:=HI3.out.f4
      have hf5:=HI3.out.f5
      have hf6:=HI3.out.f6
      clear hfa2 hb3
      gi_wp2
      exact ⟨(keeps_of_below Hk3.out).trans (((KeepsOthers.setCell _ _ _).trans (KeepsOthers.setCell _ _ _)).trans (KeepsOthers.setCell _ _ _)),⟨rfl,Hbad.out,HI3.out.quits⟩,
       ((HB3.out.setCell (p:=⟨w.heap.size + 1 + 1,0,none⟩) (by simp; omega) _).setCell (p:=⟨w.heap.size + 1 + 1 + 1,0,none⟩) (by simp; omega) _).setCell (p:=⟨w.heap.size + 1 + 1 + 1 + 1,0,none⟩) (by simp; omega) _⟩
    ·have Hbad:Hid (∃ x∈tl,¬ okT most x):=⟨(p,k),Hmem.out,fun h=>hk2 h.1.1⟩
     have hk1':¬ most < k:=by omega
     have hk2':k < -most:=by omega
     clear hfa
     gi_wp2_with fail
     refine ⟨trivial,?_⟩
     refine (CallsIn.inRound l (callsIn_wide.2 hsm)).mono ?_
     rintro e w2 ⟨rfl,hb2⟩
     have HI2:=Lib.hid (HI.out.below hb2)
     have HB2:=Lib.hid (HB.out.trans (hb2.mono HB.out.size))
     have Hk2:=Lib.hid (hb2)
     have hc3:=HI2.out.c3
     have hc4:=HI2.out.c4
     have hc5:=HI2.out.c5
     have hc6:=HI2.out.c6
     have hf4:=HI2.out.f4
     have hf5:=HI2.out.f5
     have hf6:=HI2.out.f6
     clear hsm hb2
     gi_wp2
     exact ⟨(keeps_of_below Hk2.out).trans (((KeepsOthers.setCell _ _ _).trans (KeepsOthers.setCell _ _ _)).trans (KeepsOthers.setCell _ _ _)),⟨rfl,Hbad.out,HI2.out.quits⟩,
      ((HB2.out.setCell (p:=⟨w.heap.size + 1 + 1,0,none⟩) (by simp; omega) _).setCell (p:=⟨w.heap.size + 1 + 1 + 1,0,none⟩) (by simp; omega) _).setCell (p:=⟨w.heap.size + 1 + 1 + 1 + 1,0,none⟩) (by simp; omega) _⟩
   ·have Hbad:Hid (∃ x∈tl,¬ okT most x):=⟨(p,k),Hmem.out,fun h=>hk1 h.1.2⟩
    have hk1':most < k:=by omega
    clear hfa
    gi_wp2_with fail
    refine ⟨trivial,?_⟩
    refine (CallsIn.inRound l (callsIn_wide.2 hsm)).mono ?_
    rintro e w2 ⟨rfl,hb2⟩
    have HI2:=Lib.hid (HI.out.below hb2)
    have HB2:=Lib.hid (HB.out.trans (hb2.mono HB.out.size))
    have Hk2:=Lib.hid (hb2)
    have hc3:=HI2.out.c3
    have hc4:=HI2.out.c4
    have hc5:=HI2.out.c5
    have hc6:=HI2.out.c6
    have hf4:=HI2.out.f4
    have hf5:=HI2.out.f5
    have hf6:=HI2.out.f6
    clear hsm hb2
    gi_wp2
    exact ⟨(keeps_of_below Hk2.out).trans (((KeepsOthers.setCell _ _ _).trans (KeepsOthers.setCell _ _ _)).trans (KeepsOthers.setCell _ _ _)),⟨rfl,Hbad.out,HI2.out.quits⟩,
     ((HB2.out.setCell (p:=⟨w.heap.size + 1 + 1,0,none⟩) (by simp; omega) _).setCell (p:=⟨w.heap.size + 1 + 1 + 1,0,none⟩) (by simp; omega) _).setCell (p:=⟨w.heap.size + 1 + 1 + 1 + 1,0,none⟩) (by simp; omega) _⟩
  ·rw [if_neg hk64] at hsm
   have Hbad:Hid (∃ x∈tl,¬ okT most x):=⟨(p,k),Hmem.out,fun h=>hk64 ⟨by have:=h.1.1; simp only at this; omega,by have:=h.1.2; simp only at this; omega⟩⟩
   clear hfa
   gi_wp2_with fail
   refine ⟨trivial,?_⟩
   refine (CallsIn.inRound l (callsIn_wide.2 hsm)).mono ?_
   rintro e w2 ⟨rfl,hb2⟩
   have HI2:=Lib.hid (HI.out.below hb2)
   have HB2:=Lib.hid (HB.out.trans (hb2.mono HB.out.size))
   have Hk2:=Lib.hid (hb2)
   have hc3:=HI2.out.c3
   have hc4:=HI2.out.c4
   have hc5:=HI2.out.c5
   have hc6:=HI2.out.c6
   have hf4:=HI2.out.f4
   have hf5:=HI2.out.f5
   have hf6:=HI2.out.f6
   clear hsm hb2
   gi_wp2
   exact ⟨(keeps_of_below Hk2.out).trans (((KeepsOthers.setCell _ _ _).trans (KeepsOthers.setCell _ _ _)).trans (KeepsOthers.setCell _ _ _)),⟨rfl,Hbad.out,HI2.out.quits⟩,
    ((HB2.out.setCell (p:=⟨w.heap.size + 1 + 1,0,none⟩) (by simp; omega) _).setCell (p:=⟨w.heap.size + 1 + 1 + 1,0,none⟩) (by simp; omega) _).setCell (p:=⟨w.heap.size + 1 + 1 + 1 + 1,0,none⟩) (by simp; omega) _⟩
 case done =>
  rintro D' ys W hD rfl ⟨hI,hB⟩ hK
  rw [List.attach_map_subtype_val] at hI
  have hv:nearV most tl = .tuple #[.int .i64 (lowT tl),.int .i64 (highT tl),.bool true]:=by unfold nearV; rw [if_pos hI.ok]
  have Hv:=Lib.hid hv
  have HI:=Lib.hid hI
  have HB:=Lib.hid hB
  have HK:=Lib.hid hK
  have hc4:=HI.out.c4
  have hc5:=HI.out.c5
  have hc6:=HI.out.c6
  have hf4:=HI.out.f4
  have hf5:=HI.out.f5
  have hf6:=HI.out.f6
  clear hv hI hB hK hr1 hr2 hI1 hB1 hB5 Hsz Hfa
  generalize lowT tl=lo at *
  generalize highT tl=hi at *
  gi_wp2_with fail
  gi_region
  gi_wp2
  clear hc4 hc5 hc6 hf4 hf5 hf6
  have e4:(((W.setCell { block:=w.heap.size + 1 + 1,off:=0 } (Value.int IntKind.i64 lo)).setCell { block:=w.heap.size + 1 + 1 + 1,off:=0 } (Value.int IntKind.i64 hi)).setCell { block:=w.heap.size + 1 + 1 + 1 + 1,off:=0 } (Value.bool true)).drew.cell? ⟨w.heap.size + 1 + 1,0,none⟩=some (.int .i64 lo):=by
   show World.cell? (((W.setCell { block:=w.heap.size + 1 + 1,off:=0 } (Value.int IntKind.i64 lo)).setCell { block:=w.heap.size + 1 + 1 + 1,off:=0 } (Value.int IntKind.i64 hi)).setCell { block:=w.heap.size + 1 + 1 + 1 + 1,off:=0 } (Value.bool true)) _=_
   rw [World.cell?_setCell_other _ _ _ _ (by simp),World.cell?_setCell_other _ _ _ _ (by simp),World.cell?_setCell_same _ _ _ HI.out.c4]
  have e5:(((W.setCell { block:=w.heap.size + 1 + 1,off:=0 } (Value.int IntKind.i64 lo)).setCell { block:=w.heap.size + 1 + 1 + 1,off:=0 } (Value.int IntKind.i64 hi)).setCell { block:=w.heap.size + 1 + 1 + 1 + 1,off:=0 } (Value.bool true)).drew.cell? ⟨w.heap.size + 1 + 1 + 1,0,none⟩=some (.int .i64 hi):=by
   show World.cell? (((W.setCell { block:=w.heap.size + 1 + 1,off:=0 } (Value.int IntKind.i64 lo)).setCell { block:=w.heap.size + 1 + 1 + 1,off:=0 } (Value.int IntKind.i64 hi)).setCell { block:=w.heap.size + 1 + 1 + 1 + 1,off:=0 } (Value.bool true)) _=_
   rw [World.cell?_setCell_other _ _ _ _ (by simp),World.cell?_setCell_same _ _ _ (by rw [World.cell?_setCell_other _ _ _ _ (by simp)]; exact HI.out.c5)]
  have e6:(((W.setCell { block:=w.heap.size + 1 + 1,off:=0 } (Value.int IntKind.i64 lo)).setCell { block:=w.heap.size + 1 + 1 + 1,off:=0 } (Value.int IntKind.i64 hi)).setCell { block:=w.heap.size + 1 + 1 + 1 + 1,off:=0 } (Value.bool true)).drew.cell? ⟨w.heap.size + 1 + 1 + 1 + 1,0,none⟩=some (.bool true):=by
   show World.cell? (((W.setCell { block:=w.heap.size + 1 + 1,off:=0 } (Value.int IntKind.i64 lo)).setCell { block:=w.heap.size + 1 + 1 + 1,off:=0 } (Value.int IntKind.i64 hi)).setCell { block:=w.heap.size + 1 + 1 + 1 + 1,off:=0 } (Value.bool true)) _=_
   rw [World.cell?_setCell_same _ _ _ (by rw [World.cell?_setCell_other _ _ _ _ (by simp),World.cell?_setCell_other _ _ _ _ (by simp)]; exact HI.out.c6)]
  have hk9:=(((KeepsOthers.setCell W ⟨w.heap.size + 1 + 1,0,none⟩ (.int .i64 lo)).trans (KeepsOthers.setCell _ ⟨w.heap.size + 1 + 1 + 1,0,none⟩ (.int .i64 hi))).trans (KeepsOthers.setCell _ ⟨w.heap.size + 1 + 1 + 1 + 1,0,none⟩ (.bool true))).trans (KeepsOthers.drew _)
  have hK9:=hk9.same D' _ HK.out rfl
  have hb9:=(((HB.out.setCell (p:=⟨w.heap.size + 1 + 1,0,none⟩) (by show _≤w.heap.size + 1 + 1; omega) (.int .i64 lo)).setCell (p:=⟨w.heap.size + 1 + 1 + 1,0,none⟩) (by show _≤w.heap.size + 1 + 1 + 1; omega) (.int .i64 hi)).setCell (p:=⟨w.heap.size + 1 + 1 + 1 + 1,0,none⟩) (by show _≤w.heap.size + 1 + 1 + 1 + 1; omega) (.bool true)).drew
  generalize (((W.setCell { block:=w.heap.size + 1 + 1,off:=0 } (Value.int IntKind.i64 lo)).setCell { block:=w.heap.size + 1 + 1 + 1,off:=0 } (Value.int IntKind.i64 hi)).setCell { block:=w.heap.size + 1 + 1 + 1 + 1,off:=0 } (Value.bool true)).drew=w9 at *
  have g4:=cell_kept e4 (grownBy_putObj' _ D' (.deferred none)) (fun r e=>by cases e; exact ⟨_,hK9,rfl⟩)
  have g5:=cell_kept e5 (grownBy_putObj' _ D' (.deferred none)) (fun r e=>by cases e; exact ⟨_,hK9,rfl⟩)
  have g6:=cell_kept e6 (grownBy_putObj' _ D' (.deferred none)) (fun r e=>by cases e; exact ⟨_,hK9,rfl⟩)
  refine ⟨by simp,.inl ⟨_,_,rfl,run_takeDeferred hK9,?_⟩⟩
  refine ⟨.tuple #[.int .i64 lo,.int .i64 hi,.bool true],?_,by rw [Hv.out],hb9.trans (belowK_b (w:=w) nr_ w9 D' _ _ (by rw [hsz1] at hD; omega) hK9 rfl rfl)⟩
  simp [results,Tryz.results134,go_sem,g4,g5,g6]
 case stop =>
  rintro D' c pre W hD hSp ⟨⟨rfl,hbad,hX⟩,hB⟩ hK
  have hv:nearV most tl = .tuple #[.int .i64 0,.int .i64 0,.bool false]:=by
   unfold nearV
   rw [if_neg]
   intro h
   obtain ⟨x,hx,hn⟩:=hbad
   exact hn (h x hx)
  have g4:=cell_kept hX.c4 (grownBy_putObj' _ D' (.deferred none)) (fun r e=>by cases e; exact ⟨_,hK,rfl⟩)
  have g5:=cell_kept hX.c5 (grownBy_putObj' _ D' (.deferred none)) (fun r e=>by cases e; exact ⟨_,hK,rfl⟩)
  have g6:=cell_kept hX.c6 (grownBy_putObj' _ D' (.deferred none)) (fun r e=>by cases e; exact ⟨_,hK,rfl⟩)
  gi_wp2
  refine ⟨by simp,.inl ⟨_,_,rfl,run_takeDeferred hK,?_⟩⟩
  refine ⟨.tuple #[.int .i64 0,.int .i64 0,.bool false],?_,by rw [hv],hB.trans (belowK_b (w:=w) nr_ W D' _ _ (by rw [hsz1] at hD; omega) hK rfl rfl)⟩
  simp [results,Tryz.results134,go_sem,g4,g5,g6]
end Go.Proofs.YtlomhfknmhaboaaGreatDoor

namespace Go.Proofs.YtlomhfknmhaboaaGreatDoor
open Go.RowKit
structure TermsAt (w:World) (tl:List (Int×Int)) (b1:Option Addr) (b2:Option Addr):Prop where
 r1:Rd w b1 (ints (tl.map Prod.fst))
 r2:Rd w b2 (strs (tl.map fun x=>itx x.2))
 len:tl.length≤1000
 p:∀ x∈tl,2≤x.1∧x.1≤97
 z:∀ x∈tl,ZNum x.2
theorem TermsAt.below {w w':World} {tl:List (Int×Int)} {b1 b2:Option Addr} (h:TermsAt w tl b1 b2) (hb:Below w.heap.size w w'):TermsAt w' tl b1 b2 :=
 ⟨h.r1.below hb nr_,h.r2.below hb nr_,h.len,h.p,h.z⟩
def quickV (tl:List (Int×Int)):Int :=
 if ∀ x∈tl,okT 10000000 x then if 0≤lowT tl then 1 else if highT tl≤0 then -1 else 0 else 0
set_option maxHeartbeats 4000000 in
theorem quick_any (w:World) (b1 b2:Option Addr) (d1 d2 D:Nat) (tl:List (Int×Int)) (T:TermsAt w tl b1 b2) (L:Laid w) :
  Gives Tryz.prog 108 #[.agg (tcells b1 d1 b2 d2 tl.length D)] w (.int .i64 (quickV tl)):=by
 unfold Gives
 have Hb0:=Lib.hid ((Below.refl w.heap.size w).alloc nr_ (.cells (tcells b1 d1 b2 d2 tl.length D) 103))
 have hn:Gives Tryz.prog 134 #[.agg (tcells b1 d1 b2 d2 tl.length D),.int .i64 10000000] (w.alloc (.cells (tcells b1 d1 b2 d2 tl.length D) 103)) (nearV 10000000 tl):=by
  have T':=T.below Hb0.out
  exact near_any _ b1 b2 d1 d2 D tl 10000000 (by decide) (by decide) T'.len T'.r1 T'.r2 T'.p T'.z (L.below Hb0.out)
 have Hn:=Lib.hid hn
 clear T L hn
 by_cases hall:∀ x∈tl,okT 10000000 x
 ·have hv:nearV 10000000 tl = .tuple #[.int .i64 (lowT tl),.int .i64 (highT tl),.bool true]:=by unfold nearV; rw [if_pos hall]
  rw [hv] at Hn
  have Hq:Hid (quickV tl=if 0≤lowT tl then 1 else if highT tl≤0 then -1 else 0):=by show _=_; unfold quickV; rw [if_pos hall]
  clear hv hall
  generalize quickV tl=q at *
  generalize lowT tl=lo at *
  generalize highT tl=hi at *
  by_cases h1:0≤lo
  ·have Hqq:Hid (q=1):=by show _=_; rw [Hq.out,if_pos h1]
   go_enter Tryz.func108,Tryz.ntmps108
   go_wp2_with fail
   refine Calls.mono Hn.out ?_
   rintro e w1 ⟨rfl,hb1⟩
   have Hb1:=Lib.hid (Hb0.out.trans (hb1.mono Hb0.out.size))
   clear hb1 Hn
   go_wp2
   go_ret
   exact ⟨by rw [Hqq.out]; rfl,Hb1.out⟩
  ·by_cases h2:hi≤0
   ·have Hqq:Hid (q = -1):=by show _=_; rw [Hq.out,if_neg h1,if_pos h2]
    go_enter Tryz.func108,Tryz.ntmps108
    go_wp2_with fail
    refine Calls.mono Hn.out ?_
    rintro e w1 ⟨rfl,hb1⟩
    have Hb1:=Lib.hid (Hb0.out.trans (hb1.mono Hb0.out.size))
    clear hb1 Hn
    go_wp2
    go_ret
    exact ⟨by rw [Hqq.out]; rfl,Hb1.out⟩
   ·have Hqq:Hid (q=0):=by show _=_; rw [Hq.out,if_neg h1,if_neg h2]
    go_enter Tryz.func108,Tryz.ntmps108
    go_wp2_with fail
    refine Calls.mono Hn.out ?_
    rintro e w1 ⟨rfl,hb1⟩
    have Hb1:=Lib.hid (Hb0.out.trans (hb1.mono Hb0.out.size))
    clear hb1 Hn
    go_wp2
    go_ret
    exact ⟨by rw [Hqq.out]; rfl,Hb1.out⟩
 ·have hv:nearV 10000000 tl = .tuple #[.int .i64 0,.int .i64 0,.bool false]:=by unfold nearV; rw [if_neg hall]
  rw [hv] at Hn
  have Hq:Hid (quickV tl=0):=by show _=_; unfold quickV; rw [if_neg hall]
  clear hv hall
  go_enter Tryz.func108,Tryz.ntmps108
  go_wp2_with fail
  refine Calls.mono Hn.out ?_
  rintro e w1 ⟨rfl,hb1⟩
  have Hb1:=Lib.hid (Hb0.out.trans (hb1.mono Hb0.out.size))
  clear hb1 Hn
  go_wp2
  go_ret
  exact ⟨by rw [Hq.out]; rfl,Hb1.out⟩
theorem sign_quick (w:World) (b1 b2:Option Addr) (d1 d2 D:Nat) (tl:List (Int×Int)) (T:TermsAt w tl b1 b2) (L:Laid w) (hq:tl=[]∨quickV tl≠0) :
  Gives Tryz.prog 67 #[.agg (tcells b1 d1 b2 d2 tl.length D)] w (.int .i64 (if tl=[] then 0 else quickV tl)):=by
 unfold Gives
 by_cases h0:tl=[]
 ·subst h0
  rw [if_pos rfl]
  have Hb0:=Lib.hid ((Below.refl w.heap.size w).alloc nr_ (.cells (tcells b1 d1 b2 d2 0 D) 103))
  clear T L hq
  rw [show ([]:List (Int×Int)).length=0 from rfl]
  obtain ⟨m0,m1,m2,m3⟩:=obj_cells3 (heap_at w (tcells b1 d1 b2 d2 0 D) 103 w.heap.size rfl)
  clear m3
  go_enter Tryz.func67,Tryz.ntmps67
  go_wp2_with fail
  go_step3
  go_wp2_with fail
  rw [Exit.noGoto_ret]
  go_ret
  exact ⟨rfl,Hb0.out⟩
 ·rw [if_neg h0]
  have Hb0:=Lib.hid ((Below.refl w.heap.size w).alloc nr_ (.cells (tcells b1 d1 b2 d2 tl.length D) 103))
  have Hn:=Lib.hid (quick_any _ b1 b2 d1 d2 D tl (T.below Hb0.out) (L.below Hb0.out))
  have hq0:(quickV tl == 0)=false:=by rw [beq_eq_false_iff_ne]; exact hq.resolve_left h0
  have hl0:((tl.length:Int) == 0)=false:=by
   rw [beq_eq_false_iff_ne]
   intro h
   exact h0 (List.eq_nil_of_length_eq_zero (by omega))
  clear T L hq h0
  generalize quickV tl=q at *
  generalize tl.length=m at *
  obtain ⟨m0,m1,m2,m3⟩:=obj_cells3 (heap_at w (tcells b1 d1 b2 d2 m D) 103 w.heap.size rfl)
  clear m3
  go_enter Tryz.func67,Tryz.ntmps67
  go_wp2_with fail
  go_step3
  go_wp2_with fail
  refine Calls.mono Hn.out ?_
  rintro e w1 ⟨rfl,hb1⟩
  have Hb1:=Lib.hid (Hb0.out.trans (hb1.mono Hb0.out.size))
  clear hb1 Hn
  go_wp2_with fail
  rw [Exit.noGoto_ret]
  go_ret
  exact ⟨rfl,Hb1.out⟩
theorem downward_any (w:World) (a b:Int) (ha : -4000000000000000000≤a∧a≤4000000000000000000) (hb:0 < b) (hb2:b≤4000000000000000000) :
  Gives Tryz.prog 140 #[.int .i64 a,.int .i64 b] w (.int .i64 (a / b)):=by
 unfold Gives
 have hbz:(b == 0)=false:=by rw [beq_eq_false_iff_ne]; omega
 by_cases h:a < 0
 ·have hw1:IntKind.i64.wrap (-a) = -a:=IntWalk.i64_in _ (by omega)
  have hw2:IntKind.i64.wrap (-a + b) = -a + b:=IntWalk.i64_in _ (by omega)
  have hw3:IntKind.i64.wrap (-a + b - 1) = -a + b - 1:=IntWalk.i64_in _ (by omega)
  have e1:Int.tdiv (-a + b - 1) b=(-a + b - 1) / b:=Int.tdiv_eq_ediv_of_nonneg (by omega)
  have q1:0≤(-a + b - 1) / b:=Int.ediv_nonneg (by omega) (by omega)
  have q2:(-a + b - 1) / b ≤ -a + b - 1:=Int.ediv_le_self _ (by omega)
  have hw4:IntKind.i64.wrap ((-a + b - 1) / b)=(-a + b - 1) / b:=IntWalk.i64_in _ (by omega)
  have hw5:IntKind.i64.wrap (-((-a + b - 1) / b)) = -((-a + b - 1) / b):=IntWalk.i64_in _ (by omega)
  have Hv:Hid (a / b = -((-a + b - 1) / b)):=by
   show _=_
   have h1:=Int.emod_add_mul_ediv (-a + b - 1) b
   have h2:=Int.emod_nonneg (-a + b - 1) (show b≠0 by omega)
   have h3:=Int.emod_lt_of_pos (-a + b - 1) hb
   generalize (-a + b - 1) / b=q at *
   generalize (-a + b - 1) % b=r at *
   have e2:a=(b - 1 - r) + b * (-q):=by rw [Int.mul_neg]; omega
   rw [e2,Int.add_mul_ediv_left _ _ (show b≠0 by omega),Int.ediv_eq_zero_of_lt (by omega) (by omega)]
   omega
  generalize (-a + b - 1) / b=q at *
  go_enter Tryz.func140,Tryz.ntmps140
  go_wp2
  go_ret
  exact ⟨by rw [Hv.out]; rfl,Below.refl _ _⟩
 ·have e1:Int.tdiv a b=a / b:=Int.tdiv_eq_ediv_of_nonneg (by omega)
  have q1:0≤a / b:=Int.ediv_nonneg (by omega) (by omega)
  have q2:a / b≤a:=Int.ediv_le_self _ (by omega)
  have hw4:IntKind.i64.wrap (a / b)=a / b:=IntWalk.i64_in _ (by omega)
  generalize a / b=q at *
  go_enter Tryz.func140,Tryz.ntmps140
  go_wp2
  go_ret
  exact ⟨rfl,Below.refl _ _⟩
end Go.Proofs.YtlomhfknmhaboaaGreatDoor

namespace Go.Proofs.YtlomhfknmhaboaaGreatDoor
open Go.RowKit
set_option maxRecDepth 100000 in
set_option maxHeartbeats 4000000 in
theorem lowest_neg (w:World) (n:Int) (d g:Nat) (hn:ZNum n) (hd:Num d) (hd0:0 < d) (hn1:Num (n.natAbs + 1)) (hd1:Num (d + 1)) (hg:Nat.gcd n.natAbs d=g) (L:Laid w) :
  Gives Tryz.prog 81 #[.string (itx (-n)),.string (itx (-(d:Int)))] w (fv (n / (g:Int)) (d / g)):=by
 unfold Gives fv
 have hg0:0 < g:=by rw [← hg]; exact Nat.gcd_pos_of_pos_right _ hd0
 have hgl:g≤d:=by rw [← hg]; exact Nat.gcd_le_right _ hd0
 have hgn:Num g:=hd.le hgl
 have Hb0:=Lib.hid ((Below.refl w.heap.size w).alloc nr_ (.cells #[.string ⟨#[]⟩,.string ⟨#[]⟩] 30))
 have Hnew:Hid ((w.alloc (.cells #[.string ⟨#[]⟩,.string ⟨#[]⟩] 30)).heap[w.heap.size]?=some (.cells #[.string ⟨#[]⟩,.string ⟨#[]⟩] 30 (0,0))):=heap_alloc_new w _
 have HL:=Lib.hid (L.below Hb0.out)
 have Hsg:Hid (∀ W,Gives Tryz.prog 54 #[.string (itx (-(d:Int)))] W (.int .i64 (-1))):=fun W=>by
  have:=sign_any W (-(d:Int))
  rw [Int.sign_eq_neg_one_of_neg (show -(d:Int) < 0 by omega)] at this
  exact this
 have Hn1:Hid (∀ W,Gives Tryz.prog 34 #[.string (itx (-n))] W (.string (itx n))):=fun W=>by
  have:=neg_any W (-n) (show Num _ by rw [Int.natAbs_neg]; exact hn)
  rw [Int.neg_neg] at this
  exact this
 have Hn2:Hid (∀ W,Gives Tryz.prog 34 #[.string (itx (-(d:Int)))] W (.string (dec d))):=fun W=>by
  have:=neg_any W (-(d:Int)) (show Num _ by rw [Int.natAbs_neg]; exact hd)
  rw [Int.neg_neg,itx_nat] at this
  exact this
 clear L
 go_enter Tryz.func81,Tryz.ntmps81
 go_wp2_with fail
 generalize w.alloc (.cells #[.string ⟨#[]⟩,.string ⟨#[]⟩] 30)=W0 at *
 have Hgc:Hid (∀ W,Below W0.heap.size W0 W→Gives Tryz.prog 55 #[.string (itx n),.string (dec d)] W (.string (dec g))):=fun W hW=>by
  have:=gcdz_any W n (d:Int) hn (show Num _ from hd) (HL.out.below hW)
  rw [itx_nat,show Int.gcd n (d:Int)=g from hg] at this
  exact this
 have Hd1:Hid (∀ W,Below W0.heap.size W0 W→Gives Tryz.prog 107 #[.string (itx n),.string (dec g)] W (.tuple #[.string (itx (n / (g:Int))),.string (itx (n % (g:Int))),.int .i64 0])):=fun W hW=>divmodz_any W n g hn hgn hg0 hn1 (HL.out.below hW)
 have Hd2:Hid (∀ W,Below W0.heap.size W0 W→Gives Tryz.prog 107 #[.string (dec d),.string (dec g)] W (.tuple #[.string (dec (d / g)),.string (itx ((d:Int) % (g:Int))),.int .i64 0])):=fun W hW=>by
  have:=divmodz_any W (d:Int) g (show Num _ from hd) hgn hg0 (show Num (d + 1) from hd1) (HL.out.below hW)
  rw [itx_nat,show (d:Int) / (g:Int)=((d / g:Nat):Int) from rfl,itx_nat] at this
  exact this
 have ho:=is_one g
 by_cases h1:g=1
 ·have Hrs:Hid (itx (n / (g:Int))=itx n):=by show _=_; rw [h1]; congr 1; exact Int.ediv_one n
  have Hrt:Hid (dec (d / g)=dec d):=by show _=_; rw [h1,Nat.div_one]
  rw [decide_eq_true h1] at ho
  clear h1 Hd1 Hd2 hg hg0 hgl hgn hn hd hn1 hd1
  obtain ⟨s,hs⟩:∃ s,itx n=s:=⟨_,rfl⟩
  obtain ⟨t,ht⟩:∃ t,dec d=t:=⟨_,rfl⟩
  rw [hs] at Hrs Hgc Hn1
  rw [ht] at Hrt Hgc Hn2
  clear hs ht
  generalize itx (-n)=ns at *
  generalize itx (-(d:Int))=nd at *
  generalize dec g=u at *
  refine Calls.mono (Hsg.out _) ?_
  rintro e w1 ⟨rfl,hb1⟩
  have Hb1:=Lib.hid hb1
  clear hb1 Hsg
  go_wp2_with fail
  refine Calls.mono (Hn1.out _) ?_
  rintro e w5 ⟨rfl,hb5⟩
  have Hb5:=Lib.hid (Hb1.out.trans (hb5.mono Hb1.out.size))
  clear hb5 Hb1 Hn1
  go_wp2_with fail
  refine Calls.mono (Hn2.out _) ?_
  rintro e w6 ⟨rfl,hb6⟩
  have Hb6:=Lib.hid (Hb5.out.trans (hb6.mono Hb5.out.size))
  clear hb6 Hb5 Hn2
  go_wp2_with fail
  refine Calls.mono (Hgc.out w6 Hb6.out) ?_
  rintro e w2 ⟨rfl,hb2⟩
  have Hb2:=Lib.hid (Hb6.out.trans (hb2.mono Hb6.out.size))
  clear hb2 Hb6 Hgc
  have Hcell:=Lib.hid (stored_cell Hnew.out Hb2.out)
  have Hbw:=Lib.hid (Hb0.out.trans (Hb2.out.mono Hb0.out.size))
  obtain ⟨k0,k1,f0,f1⟩:=two_cells Hcell.out
  clear Hb2 Hb0 Hcell Hnew HL
  go_wp2
  obtain ⟨c0,c1,hb3⟩:=two_stored (.string s) (.string t) k0 k1 nr_ Hbw.out
  generalize (w2.setCell ⟨w.heap.size,0,none⟩ (.string s)).setCell ⟨w.heap.size,1,none⟩ (.string t)=w9 at *
  exact bodyPost_ret (v := .agg #[.string s,.string t]) (by simp [results,Tryz.results81,go_sem,c0,c1]) rfl ⟨by rw [Hrs.out,Hrt.out],hb3⟩
 ·rw [decide_eq_false h1] at ho
  obtain ⟨rs,hrs⟩:∃ rs,itx (n / (g:Int))=rs:=⟨_,rfl⟩
  obtain ⟨rt,hrt⟩:∃ rt,dec (d / g)=rt:=⟨_,rfl⟩
  rw [hrs] at Hd1
  rw [hrt] at Hd2
  have Hrs:=Lib.hid hrs
  have Hrt:=Lib.hid hrt
  clear h1 hg hg0 hgl hgn hn hd hn1 hd1 hrs hrt
  generalize itx (n % (g:Int))=e1 at Hd1
  generalize itx ((d:Int) % (g:Int))=e2 at Hd2
  obtain ⟨s,hs⟩:∃ s,itx n=s:=⟨_,rfl⟩
  obtain ⟨t,ht⟩:∃ t,dec d=t:=⟨_,rfl⟩
  obtain ⟨u,hu⟩:∃ u,dec g=u:=⟨_,rfl⟩
  rw [hs] at Hd1 Hgc Hn1
  rw [ht] at Hd2 Hgc Hn2
  rw [hu] at Hd1 Hd2 Hgc ho
  clear hs ht hu
  generalize itx (-n)=ns at *
  generalize itx (-(d:Int))=nd at *
  refine Calls.mono (Hsg.out _) ?_
  rintro e w1 ⟨rfl,hb1⟩
  have Hb1:=Lib.hid hb1
  clear hb1 Hsg
  go_wp2_with fail
  refine Calls.mono (Hn1.out _) ?_
  rintro e w5 ⟨rfl,hb5⟩
  have Hb5:=Lib.hid (Hb1.out.trans (hb5.mono Hb1.out.size))
  clear hb5 Hb1 Hn1
  go_wp2_with fail
  refine Calls.mono (Hn2.out _) ?_
  rintro e w6 ⟨rfl,hb6⟩
  have Hb6:=Lib.hid (Hb5.out.trans (hb6.mono Hb5.out.size))
  clear hb6 Hb5 Hn2
  go_wp2_with fail
  refine Calls.mono (Hgc.out w6 Hb6.out) ?_
  rintro e w2 ⟨rfl,hb2⟩
  have Hb2:=Lib.hid (Hb6.out.trans (hb2.mono Hb6.out.size))
  clear hb2 Hb6 Hgc
  go_wp2_with fail
  refine Calls.mono (Hd1.out w2 Hb2.out) ?_
  rintro e w3 ⟨rfl,hb3⟩
  have Hb3:=Lib.hid (Hb2.out.trans (hb3.mono Hb2.out.size))
  clear hb3 Hb2 Hd1
  go_wp2_with fail
  refine Calls.mono (Hd2.out w3 Hb3.out) ?_
  rintro e w4 ⟨rfl,hb4⟩
  have Hb4:=Lib.hid (Hb3.out.trans (hb4.mono Hb3.out.size))
  clear hb4 Hb3 Hd2
  have Hcell:=Lib.hid (stored_cell Hnew.out Hb4.out)
  have Hbw:=Lib.hid (Hb0.out.trans (Hb4.out.mono Hb0.out.size))
  obtain ⟨k0,k1,f0,f1⟩:=two_cells Hcell.out
  clear Hb4 Hb0 Hcell Hnew HL
  go_wp2
  obtain ⟨c0,c1,hb3⟩:=two_stored (.string rs) (.string rt) k0 k1 nr_ Hbw.out
  generalize (w4.setCell ⟨w.heap.size,0,none⟩ (.string rs)).setCell ⟨w.heap.size,1,none⟩ (.string rt)=w9 at *
  exact bodyPost_ret (v := .agg #[.string rs,.string rt]) (by simp [results,Tryz.results81,go_sem,c0,c1]) rfl ⟨by rw [Hrs.out,Hrt.out],hb3⟩
theorem lowest_any (w:World) (n m:Int) (hn:ZNum n) (hm:ZNum m) (hm0:m≠0) (hn1:Num (n.natAbs + 1)) (hm1:Num (m.natAbs + 1)) (L:Laid w) :
  Gives Tryz.prog 81 #[.string (itx n),.string (itx m)] w (fr ((n:Rat) / (m:Rat))):=by
 have key:∀ (k:Int) (d:Nat),d≠0→fv (k / ((Nat.gcd k.natAbs d:Nat):Int)) (d / Nat.gcd k.natAbs d)=fr (mkRat k d):=fun k d hd=>by
  have:=redV_rat k d hd
  unfold redV at this
  exact this
 by_cases h:0 < m
 ·obtain ⟨d,rfl⟩:∃ d:Nat,m=(d:Int):=⟨m.toNat,by omega⟩
  have:=lowest_frac w n d _ hn hm (by omega) hn1 hm1 rfl L
  rw [key n d (by omega),Rat.mkRat_eq_div] at this
  rw [itx_nat]
  exact this
 ·obtain ⟨d,rfl⟩:∃ d:Nat,m = -(d:Int):=⟨m.natAbs,by omega⟩
  have hmm:Num d:=by have:Num (-(d:Int)).natAbs:=hm; rwa [Int.natAbs_neg] at this
  have hmm1:Num (d + 1):=by rwa [Int.natAbs_neg] at hm1
  have:=lowest_neg w (-n) d _ (show Num _ by rw [Int.natAbs_neg]; exact hn) hmm (by omega) (by rw [Int.natAbs_neg]; exact hn1) hmm1 rfl L
  rw [Int.neg_neg,key (-n) d (by omega),Rat.mkRat_eq_div] at this
  have e:((-n:Int):Rat) / ((d:Nat):Rat)=(n:Rat) / ((-(d:Int):Int):Rat):=by
   rw [Rat.div_def,Rat.div_def,Rat.intCast_neg,Rat.intCast_neg,Rat.intCast_natCast]
   have hi:(-((d:Nat):Rat))⁻¹ = -(((d:Nat):Rat)⁻¹):=by
    apply Rat.inv_eq_of_mul_eq_one
    have:((d:Nat):Rat)≠0:=by intro h0; exact absurd (Rat.natCast_eq_zero_iff.1 h0) (by omega)
    rw [Rat.neg_mul,Rat.mul_neg,Rat.neg_neg,Rat.mul_inv_cancel _ this]
   rw [hi,Rat.neg_mul,Rat.mul_neg]
  rw [e] at this
  exact this
theorem div_eq (a b:Rat):a / b=((a.num * b.den:Int):Rat) / (((a.den:Int) * b.num:Int):Rat):=by
 have h1:a=(a.num:Rat) / ((a.den:Nat):Rat):=by rw [← Rat.mkRat_eq_div,Rat.mkRat_self]
 have h2:b=(b.num:Rat) / ((b.den:Nat):Rat):=by rw [← Rat.mkRat_eq_div,Rat.mkRat_self]
 have ha:((a.den:Nat):Rat)≠0:=by intro h; exact a.den_nz (Rat.natCast_eq_zero_iff.1 h)
 have hb:((b.den:Nat):Rat)≠0:=by intro h; exact b.den_nz (Rat.natCast_eq_zero_iff.1 h)
 rw [Rat.intCast_mul,Rat.intCast_mul,Rat.intCast_natCast,Rat.intCast_natCast]
 generalize a.num=x at *
 generalize b.num=y at *
 generalize ((a.den:Nat):Rat)=u at *
 generalize ((b.den:Nat):Rat)=v at *
 subst h1 h2
 by_cases hy:(y:Rat)=0
 ·rw [hy]; simp [Rat.div_def]
 ·grind
set_option maxRecDepth 100000 in
set_option maxHeartbeats 8000000 in
theorem divR (w:World) (a b:Rat) (D E:Nat) (ha:Sm D a) (hb:Sm E b) (hb0:b≠0) (h6:D + E + 2≤1000000) (L:Laid w) :
  Gives Tryz.prog 139 #[fr a,fr b] w (.tuple #[fr (a / b),.int .i64 0]):=by
 have hm0:b.num≠0:=fun h=>hb0 (Rat.num_eq_zero.1 h)
 have p1:=ha.pos
 have p2:=hb.pos
 have e1:(a.num * b.den).natAbs < 10 ^ (D + E):=by rw [Int.natAbs_mul]; exact pow_ten_mul ha.1 hb.2
 have e2:((a.den:Int) * b.num).natAbs < 10 ^ (D + E):=by rw [Int.natAbs_mul]; exact pow_ten_mul ha.2 hb.1
 have h3:10 ^ (D + E) < 10 ^ (D + E + 1):=Nat.pow_lt_pow_right (by decide) (by omega)
 have z1:ZNum (a.num * b.den):=num_pow e1 (by omega) (by omega)
 have z2:ZNum ((a.den:Int) * b.num):=num_pow e2 (by omega) (by omega)
 have z3:Num ((a.num * b.den).natAbs + 1):=num_pow (D:=D + E + 1) (by omega) (by omega) (by omega)
 have z4:Num (((a.den:Int) * b.num).natAbs + 1):=num_pow (D:=D + E + 1) (by omega) (by omega) (by omega)
 have hm1:(a.den:Int) * b.num≠0:=Int.mul_ne_zero (by have:=a.den_nz; omega) hm0
 have zn:ZNum a.num:=num_pow ha.1 p1 (by omega)
 have zm:ZNum b.num:=num_pow hb.1 p2 (by omega)
 have zd:Num a.den:=num_pow ha.2 p1 (by omega)
 have ze:Num b.den:=num_pow hb.2 p2 (by omega)
 obtain ⟨rs,hrs⟩:∃ rs,itx (a / b).num=rs:=⟨_,rfl⟩
 obtain ⟨rt,hrt⟩:∃ rt,dec (a / b).den=rt:=⟨_,rfl⟩
 have Hv:Hid (fr (a / b) = .agg #[.string rs,.string rt]):=by show _=_; unfold fr fv; rw [hrs,hrt]
 have hlo:∀ W,Laid W→Gives Tryz.prog 81 #[.string (itx (a.num * b.den)),.string (itx ((a.den:Int) * b.num))] W (.agg #[.string rs,.string rt]):=fun W LW=>by
  have:=lowest_any W _ _ z1 z2 hm1 z3 z4 LW
  rw [← div_eq] at this
  unfold fr fv at this
  rw [hrs,hrt] at this
  exact this
 unfold Gives
 show Calls _ _ #[fv a.num a.den,fv b.num b.den] _ _
 have Hsg:Hid (∀ W,Gives Tryz.prog 25 #[fv b.num b.den] W (.int .i64 b.num.sign)):=fun W=>sign_frac W b.num b.den
 have hs0:(b.num.sign == 0)=false:=by
  rw [beq_eq_false_iff_ne]
  intro h
  exact hm0 (Int.sign_eq_zero_iff_zero.1 h)
 clear hrs hrt hm1 z3 z4 e1 e2 h3 ha hb hb0
 generalize a.num=n at *
 generalize a.den=d at *
 generalize b.num=m at *
 generalize b.den=e at *
 generalize m.sign=sg at *
 have H3:=Lib.hid (Three.mk' w (itx n) (dec d) (itx m) (dec e))
 have HL:=Lib.hid (L.below H3.out.bel)
 clear L
 have Hm1:Hid (∀ W,Below (((w.alloc (.cells #[.string (itx n),.string (dec d)] 30)).alloc (.cells #[.string (itx m),.string (dec e)] 30)).alloc (.cells #[.string ⟨#[]⟩,.string ⟨#[]⟩] 30)).heap.size (((w.alloc (.cells #[.string (itx n),.string (dec d)] 30)).alloc (.cells #[.string (itx m),.string (dec e)] 30)).alloc (.cells #[.string ⟨#[]⟩,.string ⟨#[]⟩] 30)) W→∀ d' os,Calls Tryz.prog 82 #[.string (itx n),.string (dec e)] (Go.Sort.grow (redrawn W d') os) fun x w''=>x = .returned (.string (itx (n * e)))∧∃ p:Regrown,w''=Go.Sort.grow (redrawn W p.d) p.os):=fun W hW d' os=>by
  have:=mulz_any (Go.Sort.grow (redrawn W d') os) n (e:Int) zn (show Num _ from ze) z1 ((HL.out.below hW).below (below_regrown W d' os))
  rw [itx_nat] at this
  exact Calls.regrown_of this
 have Hm2:Hid (∀ W,Below (((w.alloc (.cells #[.string (itx n),.string (dec d)] 30)).alloc (.cells #[.string (itx m),.string (dec e)] 30)).alloc (.cells #[.string ⟨#[]⟩,.string ⟨#[]⟩] 30)).heap.size (((w.alloc (.cells #[.string (itx n),.string (dec d)] 30)).alloc (.cells #[.string (itx m),.string (dec e)] 30)).alloc (.cells #[.string ⟨#[]⟩,.string ⟨#[]⟩] 30)) W→∀ d' os,Calls Tryz.prog 82 #[.string (dec d),.string (itx m)] (Go.Sort.grow (redrawn W d') os) fun x w''=>x = .returned (.string (itx ((d:Int) * m)))∧∃ p:Regrown,w''=Go.Sort.grow (redrawn W p.d) p.os):=fun W hW d' os=>by
  have:=mulz_any (Go.Sort.grow (redrawn W d') os) (d:Int) m (show Num _ from zd) zm z2 ((HL.out.below hW).below (below_regrown W d' os))
  rw [itx_nat] at this
  exact Calls.regrown_of this
 have Hm3:Hid (∀ W,Below (((w.alloc (.cells #[.string (itx n),.string (dec d)] 30)).alloc (.cells #[.string (itx m),.string (dec e)] 30)).alloc (.cells #[.string ⟨#[]⟩,.string ⟨#[]⟩] 30)).heap.size (((w.alloc (.cells #[.string (itx n),.string (dec d)] 30)).alloc (.cells #[.string (itx m),.string (dec e)] 30)).alloc (.cells #[.string ⟨#[]⟩,.string ⟨#[]⟩] 30)) W→∀ d' os,Calls Tryz.prog 81 #[.string (itx (n * e)),.string (itx ((d:Int) * m))] (Go.Sort.grow (redrawn W d') os) fun x w''=>x = .returned (.agg #[.string rs,.string rt])∧∃ p:Regrown,w''=Go.Sort.grow (redrawn W p.d) p.os):=fun W hW d' os=>by
  exact Calls.regrown_of (hlo (Go.Sort.grow (redrawn W d') os) ((HL.out.below hW).below (below_regrown W d' os)))
 unfold fv at Hsg ⊢
 clear hlo z1 z2 zn zm zd ze hm0 p1 p2
 go_enter Tryz.func139,Tryz.ntmps139
 obtain ⟨k0,k1,-,-⟩:=two_cells H3.out.fa
 obtain ⟨k2,k3,-,-⟩:=two_cells H3.out.fb
 go_wp2_with fail
 generalize ((w.alloc (.cells #[.string (itx n),.string (dec d)] 30)).alloc (.cells #[.string (itx m),.string (dec e)] 30)).alloc (.cells #[.string ⟨#[]⟩,.string ⟨#[]⟩] 30)=W0 at *
 clear k0 k1 k2 k3
 refine Calls.mono (Hsg.out _) ?_
 rintro e w1 ⟨rfl,hb1⟩
 have Hb1:=Lib.hid hb1
 clear hb1 Hsg
 obtain ⟨k0,k1,-,-⟩:=two_cells (H3.out.next Hb1.out).fa
 obtain ⟨k2,k3,-,-⟩:=two_cells (H3.out.next Hb1.out).fb
 have q0:=cell_regrown k0
 have q1:=cell_regrown k1
 have q2:=cell_regrown k2
 have q3:=cell_regrown k3
 have hM1:=Hm1.out w1 Hb1.out
 have hM2:=Hm2.out w1 Hb1.out
 have hM3:=Hm3.out w1 Hb1.out
 clear k0 k1 k2 k3 Hm1 Hm2 Hm3
 go_wp2_with fail
 refine wp_region_below_tail 11 (by kernel_rfl) (by kernel_rfl) ?_
 simp only [List.take_succ_cons,List.take_zero,List.drop_succ_cons,List.drop_zero]
 repeat (first | go_big_quiet_step (first | with_reducible exact hM1 _ _ | with_reducible exact hM2 _ _ | with_reducible exact hM3 _ _) | quiet_step (first | with_reducible exact hM1 _ _ | with_reducible exact hM2 _ _ | with_reducible exact hM3 _ _))
 refine wpQuiet_nil ?_
 intro w8 hw8
 obtain ⟨⟨dq,osq⟩,rfl⟩:=hw8
 have hb8:=below_regrown w1 dq osq
 have H8:=Lib.hid ((H3.out.next Hb1.out).next hb8)
 clear hb8 hM1 hM2 hM3 q0 q1 q2 q3 H3 Hb1
 generalize Go.Sort.grow (redrawn w1 dq) osq=w8 at *
 obtain ⟨k0,k1,f0,f1⟩:=two_cells H8.out.fr
 have Hbw:=Lib.hid H8.out.bel
 clear H8
 go_wp2
 obtain ⟨c0,c1,hb3⟩:=two_stored (B:=w.heap.size) (.string rs) (.string rt) k0 k1 (by omega) Hbw.out
 generalize (w8.setCell ⟨w.heap.size + 1 + 1,0,none⟩ (.string rs)).setCell ⟨w.heap.size + 1 + 1,1,none⟩ (.string rt)=w9 at *
 exact bodyPost_ret (v := .tuple #[.agg #[.string rs,.string rt],.int .i64 0]) (by simp [results,Tryz.results139,go_sem,c0,c1]) rfl ⟨by rw [Hv.out],hb3⟩
set_option maxHeartbeats 2000000 in
theorem textR (w:World) (a:Rat) (hs:Sm 400 a) :
  Gives Tryz.prog 90 #[fr a] w (.string (if a.den=1 then itx a.num else itx a.num ++ ⟨#[47]⟩ ++ dec a.den)):=by
 unfold Gives fr fv
 have Hb0:=Lib.hid ((Below.refl w.heap.size w).alloc nr_ (.cells #[.string (itx a.num),.string (dec a.den)] 30))
 obtain ⟨k0,k1,-,-⟩:=two_cells (heap_at w #[.string (itx a.num),.string (dec a.den)] 30 w.heap.size rfl)
 have ho:=is_one a.den
 have z1:(itx a.num).size≤401:=by
  have h1:=itx_size_le a.num
  have h2:=(size_lt _ 400 (by decide)).2 hs.1
  omega
 have z2:(dec a.den).size≤400:=(size_lt _ 400 (by decide)).2 hs.2
 by_cases h1:a.den=1
 ·rw [if_pos h1]
  rw [decide_eq_true h1] at ho
  clear h1 hs
  generalize itx a.num=s at *
  generalize dec a.den=t at *
  go_enter Tryz.func90,Tryz.ntmps90
  go_wp2
  go_ret
  exact ⟨rfl,Hb0.out⟩
 ·rw [if_neg h1]
  rw [decide_eq_false h1] at ho
  clear h1 hs
  generalize itx a.num=s at *
  generalize dec a.den=t at *
  have z3:(s ++ ⟨#[47]⟩).size≤402:=by rw [ByteArray.size_append]; show s.size + 1≤402; omega
  have a1:∀ W,(Op.stringOp .add s ⟨#[47]⟩).run Tryz.prog W = .ok (.string (s ++ ⟨#[47]⟩)) W:=fun W=>run_string_add W _ _ (by omega) (by decide)
  have a2:∀ W,(Op.stringOp .add (s ++ ⟨#[47]⟩) t).run Tryz.prog W = .ok (.string (s ++ ⟨#[47]⟩ ++ t)) W:=fun W=>run_string_add W _ _ (by omega) (by omega)
  go_enter Tryz.func90,Tryz.ntmps90
  go_wp2
  go_ret
  exact ⟨rfl,Hb0.out⟩
end Go.Proofs.YtlomhfknmhaboaaGreatDoor

namespace Go.Proofs.YtlomhfknmhaboaaGreatDoor
open Go.RowKit
theorem tlist_mem {D:Nat} {ps:List Int} {l:List Rat} {x:Int×Int} (hx:x∈tlist D ps l):x.1∈ps∧∃ q∈l,q.num≠0∧x.2=q.num * ((D / q.den:Nat):Int):=by
 unfold tlist at hx
 obtain ⟨y,hy,he⟩:=List.mem_filterMap.1 hx
 have h1:=(List.of_mem_zip hy).1
 have h2:=(List.of_mem_zip hy).2
 by_cases h:y.2.num=0
 ·rw [if_pos h] at he; cases he
 ·rw [if_neg h] at he
  simp only [Option.some.injEq] at he
  subst he
  exact ⟨h1,y.2,h2,h,rfl⟩
def tlQ (ps:List Int) (l:List Rat):List (Int×Int):=tlist (tden l) ps l
theorem tlQ_znum {ps:List Int} {l:List Rat} {D:Nat} (hs:∀ q∈l,Sm D q) (h6:3 + (l.length + 2) * D≤900000):∀ x∈tlQ ps l,ZNum x.2:=fun x hx=>by
 obtain ⟨_,q,hq,_,he⟩:=tlist_mem hx
 have h1:=tden_lt l D hs l.length nr_
 rw [List.take_length] at h1
 have h2:=(hs q hq).1
 have h3:tden l / q.den≤tden l:=Nat.div_le_self _ _
 have h4:=pow_ten_mul h2 (Nat.lt_of_le_of_lt h3 h1)
 rw [he]
 refine num_pow (D:=D + (1 + l.length * D)) ?_ (by omega) ?_
 ·rw [Int.natAbs_mul]; exact h4
 ·rw [Nat.add_mul] at h6; omega
theorem rd_obj {w:World} {g:Nat} {cs:Array Value} {t:TypeId} (h:w.heap[g]?=some (.cells cs t (0,0))):Rd w (some ⟨g,0,none⟩) cs.toList:=by
 refine .inr ⟨g,0,rfl,(Array.getElem?_eq_some_iff.1 h).1,fun i v hi=>?_⟩
 rw [Nat.zero_add,cell_of_row w g i _ t (0,0) h,← Array.getElem?_toList]
 exact hi
theorem rdl_two {w:World} {g:Nat} {a1 a2:Option Addr} {c1 c2:Nat} {l1 l2:Pairs} {t:TypeId} (h:w.heap[g]?=some (.cells #[.slice a1 l1.length c1,.slice a2 l2.length c2] t (0,0))) (h1:Rd w a1 (cellsS l1)) (h2:Rd w a2 (cellsS l2)):RdL w (some ⟨g,0,none⟩) [l1,l2]:=by
 obtain ⟨k0,k1,-,-⟩:=(⟨by rw [cell_of_row w g 0 _ t (0,0) h]; rfl,by rw [cell_of_row w g 1 _ t (0,0) h]; rfl,trivial,trivial⟩:w.cell? ⟨g,0,none⟩=some (.slice a1 l1.length c1)∧w.cell? ⟨g,1,none⟩=some (.slice a2 l2.length c2)∧True∧True)
 refine .inr ⟨g,0,rfl,(Array.getElem?_eq_some_iff.1 h).1,fun i hi=>?_⟩
 match i,hi with
 | 0,_=>exact ⟨a1,c1,k0,h1⟩
 | 1,_=>exact ⟨a2,c2,k1,h2⟩
theorem rdl_one {w:World} {g:Nat} {a1:Option Addr} {c1:Nat} {l1:Pairs} {t:TypeId} (h:w.heap[g]?=some (.cells #[.slice a1 l1.length c1] t (0,0))) (h1:Rd w a1 (cellsS l1)):RdL w (some ⟨g,0,none⟩) [l1]:=by
 have k0:w.cell? ⟨g,0,none⟩=some (.slice a1 l1.length c1):=by rw [cell_of_row w g 0 _ t (0,0) h]; rfl
 refine .inr ⟨g,0,rfl,(Array.getElem?_eq_some_iff.1 h).1,fun i hi=>?_⟩
 match i,hi with
 | 0,_=>exact ⟨a1,c1,k0,h1⟩
theorem infoS:(Tryz.prog.info? 34).map (fun i=>(i.zero,i.size,i.bytes))=some (some (.slice none 0 0),1,24):=by kernel_rfl
def sgnQ (ps:List Int) (l:List Rat):Int:=if tlQ ps l=[] then 0 else quickV (tlQ ps l)
structure SizeOk (w:World) (ps:List Int) (a0 a:Option Addr) (l:List Rat) (D:Nat):Prop where
 rp:Rd w a0 (ints ps)
 rl:Rd w a (cellsQ l)
 len:l.length=ps.length
 n:ps.length≤100
 pr:∀ p∈ps,2≤p∧p≤97
 sm:∀ q∈l,Sm D q
 d:D≤1000
theorem SizeOk.below {w w':World} {ps:List Int} {a0 a:Option Addr} {l:List Rat} {D:Nat} (h:SizeOk w ps a0 a l D) (hb:Below w.heap.size w w'):SizeOk w' ps a0 a l D :=
 ⟨h.rp.below hb nr_,h.rl.below hb nr_,h.len,h.n,h.pr,h.sm,h.d⟩
theorem SizeOk.i64 {w:World} {ps:List Int} {a0 a:Option Addr} {l:List Rat} {D:Nat} (h:SizeOk w ps a0 a l D):I64s ps:=fun x hx=>by have:=h.pr x hx; omega
theorem terms_ok {w:World} {ps:List Int} {a0 a:Option Addr} {l:List Rat} {D c0 c:Nat} (S:SizeOk w ps a0 a l D) (L:Laid w) :
  Calls Tryz.prog 66 #[.slice a0 ps.length c0,.slice a l.length c] w fun e w'=>∃ b1 d1 b2 d2,e = .returned (.agg (tcells b1 d1 b2 d2 (tlQ ps l).length (tden l)))∧TermsAt w' (tlQ ps l) b1 b2∧Below w.heap.size w w':=by
 have hn:=S.n
 have hd:=S.d
 have hlen:=S.len
 have h6:3 + (l.length + 2) * D≤900000:=by
  have:(l.length + 2) * D≤102 * 1000:=Nat.mul_le_mul (by omega) hd
  omega
 refine Calls.mono (termsOf_any w a0 a c0 c ps l D S.rp S.rl S.len.symm S.sm (by omega) h6 L) ?_
 rintro e w' ⟨b1,d1,b2,d2,he,r1,r2,hb⟩
 refine ⟨b1,d1,b2,d2,he,⟨r1,r2,?_,?_,tlQ_znum S.sm h6⟩,hb⟩
 ·exact Nat.le_trans (tlist_length _ _ _) (by omega)
 ·exact fun x hx=>S.pr x.1 (tlist_mem hx).1
end Go.Proofs.YtlomhfknmhaboaaGreatDoor

namespace Go.Proofs.YtlomhfknmhaboaaGreatDoor
open Go.RowKit
theorem heap_kept {w w':World} {B g:Nat} {o:Obj} (h:w.heap[g]?=some o) (hb:Below B w w') (hB:w.heap.size≤B):w'.heap[g]?=some o :=
 (hb.block g (Nat.lt_of_lt_of_le (Array.getElem?_eq_some_iff.1 h).1 hB)).trans h
theorem Sm.one:Sm 1 1:=⟨by decide,by decide⟩
theorem Sm.minus:Sm 1 (-1):=⟨by decide,by decide⟩
theorem sum_pair (W:World) (g1 g2:Nat) (a1 a2:Option Addr) (c1 c2 n D:Nat) (la lb:List Rat) (f1 f2:Rat)
  (h1:W.heap[g1]?=some (.cells #[.slice a1 la.length c1,.slice a2 lb.length c2] 34 (0,0)))
  (h2:W.heap[g2]?=some (.cells #[.string (itx f1.num),.string (dec f1.den),.string (itx f2.num),.string (dec f2.den)] 30 (0,0)))
  (ra:Rd W a1 (cellsQ la)) (rb:Rd W a2 (cellsQ lb)) (la1:la.length=n) (lb1:lb.length=n) (sa:∀ q∈la,Sm D q) (sb:∀ q∈lb,Sm D q) (s1:Sm 1 f1) (s2:Sm 1 f2)
  (hn:n≤100) (hD:D≤400) (L:Laid W) :
  GivesQ 59 #[.int .i64 n,.slice (some ⟨g1,0,none⟩) 2 2,.slice (some ⟨g2,0,none⟩) 2 2] W (sumQ n [la,lb] [f1,f2]):=by
 have h1':W.heap[g1]?=some (.cells #[.slice a1 (la.map qs).length c1,.slice a2 (lb.map qs).length c2] 34 (0,0)):=by rw [List.length_map,List.length_map]; exact h1
 exact sum_any W _ _ 2 2 n [la,lb] [f1,f2] D 1 (rdl_two h1' ra rb) (rd_obj h2) (by intro l hl; simp only [List.mem_cons,List.not_mem_nil,or_false] at hl; rcases hl with rfl | rfl <;> assumption) rfl
  (by intro l hl; simp only [List.mem_cons,List.not_mem_nil,or_false] at hl; rcases hl with rfl | rfl <;> assumption)
  (by intro q hq; simp only [List.mem_cons,List.not_mem_nil,or_false] at hq; rcases hq with rfl | rfl <;> assumption) (by omega) (by simp) (by simp only [List.length_cons,List.length_nil]; omega) L
theorem sum_pair_sm {n D:Nat} {la lb:List Rat} {f1 f2:Rat} (sa:∀ q∈la,Sm D q) (sb:∀ q∈lb,Sm D q) (s1:Sm 1 f1) (s2:Sm 1 f2):∀ q∈sumQ n [la,lb] [f1,f2],Sm (2 * D + 5) q:=by
 have:=sumK_sm n [la,lb] [f1,f2] D 1 (by intro l hl; simp only [List.mem_cons,List.not_mem_nil,or_false] at hl; rcases hl with rfl | rfl <;> assumption) (by intro q hq; simp only [List.mem_cons,List.not_mem_nil,or_false] at hq; rcases hq with rfl | rfl <;> assumption) rfl 2 nr_
 intro q hq
 have h:=this q (by unfold sumK; unfold sumQ at hq; exact hq)
 rw [show 1 + 2 * (D + 1 + 1)=2 * D + 5 by omega] at h
 exact h
theorem sum_pair_len {n:Nat} {la lb:List Rat} {f1 f2:Rat} (h1:la.length=n) (h2:lb.length=n):(sumQ n [la,lb] [f1,f2]).length=n :=
 sumQ_length n [la,lb] [f1,f2] (by intro l hl; simp only [List.mem_cons,List.not_mem_nil,or_false] at hl; rcases hl with rfl | rfl <;> assumption) rfl
set_option maxRecDepth 100000 in
set_option maxHeartbeats 8000000 in
theorem compare_quick (w:World) (ps:List Int) (a0 a1 a2:Option Addr) (c0 c1 c2 D:Nat) (la lb:List Rat) (A:SizeOk w ps a0 a1 la D) (B:SizeOk w ps a0 a2 lb D) (L:Laid w) (hD:D≤400)
  (hq:tlQ ps (sumQ ps.length [la,lb] [1,-1])=[]∨quickV (tlQ ps (sumQ ps.length [la,lb] [1,-1]))≠0) :
  Gives Tryz.prog 64 #[.slice a0 ps.length c0,.slice a1 la.length c1,.slice a2 lb.length c2] w (.int .i64 (sgnQ ps (sumQ ps.length [la,lb] [1,-1]))):=by
 unfold Gives
 have HL:=Lib.hid L
 have HA:=Lib.hid A
 have HB:=Lib.hid B
 have HD:=Lib.hid hD
 have Hq:=Lib.hid hq
 have Hn:=Lib.hid A.n
 have Hsg:Hid (sgnQ ps (sumQ ps.length [la,lb] [1,-1])=if tlQ ps (sumQ ps.length [la,lb] [1,-1])=[] then 0 else quickV (tlQ ps (sumQ ps.length [la,lb] [1,-1]))):=Lib.hid rfl
 have Hnum1:Hid (∀ W,Below w.heap.size w W→Gives Tryz.prog 65 #[.int .i64 1] W (.agg #[.string (itx 1),.string (dec 1)])):=fun W hW=>number_any W 1 (by decide) (by decide) (HL.out.below hW)
 have Hnum2:Hid (∀ W,Below w.heap.size w W→Gives Tryz.prog 65 #[.int .i64 (-1)] W (.agg #[.string (itx (-1)),.string (dec 1)])):=fun W hW=>number_any W (-1) (by decide) (by decide) (HL.out.below hW)
 clear hq hD A B L
 generalize sgnQ ps (sumQ ps.length [la,lb] [1,-1])=r at *
 go_enter Tryz.func64,Tryz.ntmps64
 go_wp2_with fail
 have K1:=Lib.hid (heap_at w #[.slice a1 la.length c1,.slice a2 lb.length c2] 34 _ rfl)
 have B1:=Lib.hid ((Below.refl w.heap.size w).alloc nr_ (.cells #[.slice a1 la.length c1,.slice a2 lb.length c2] 34))
 generalize hw1:w.alloc (.cells #[.slice a1 la.length c1,.slice a2 lb.length c2] 34)=w1 at *
 clear hw1
 refine Calls.mono (Hnum1.out _ B1.out) ?_
 rintro e w2 ⟨rfl,hb⟩
 have K2:=Lib.hid (heap_kept K1.out hb nr_)
 have B2:=Lib.hid (B1.out.trans (hb.mono B1.out.size))
 clear hb
 go_wp2_with fail
 refine Calls.mono (Hnum2.out _ B2.out) ?_
 rintro e w3 ⟨rfl,hb⟩
 have K3:=Lib.hid (heap_kept K2.out hb nr_)
 have B3:=Lib.hid (B2.out.trans (hb.mono B2.out.size))
 clear hb
 go_wp2_with fail
 have K4:=Lib.hid (heap_old K3.out (.cells #[.string (itx 1),.string (dec 1),.string (itx (-1)),.string (dec 1)] 30))
 have B4:=Lib.hid (B3.out.alloc B3.out.size (.cells #[.string (itx 1),.string (dec 1),.string (itx (-1)),.string (dec 1)] 30))
 have M4:=Lib.hid (heap_at w3 #[.string (itx 1),.string (dec 1),.string (itx (-1)),.string (dec 1)] 30 _ rfl)
 generalize hw4:w3.alloc (.cells #[.string (itx 1),.string (dec 1),.string (itx (-1)),.string (dec 1)] 30)=w4 at *
 clear hw4
 have Hs:=Lib.hid (sum_pair w4 _ _ a1 a2 c1 c2 ps.length D la lb 1 (-1) K4.out M4.out (HA.out.below B4.out).rl (HB.out.below B4.out).rl HA.out.len HB.out.len HA.out.sm HB.out.sm Sm.one Sm.minus Hn.out HD.out (HL.out.below B4.out))
 refine Calls.mono Hs.out ?_
 rintro e w5 ⟨a5,c5,rfl,ho,hb⟩
 have Hr5:=Lib.hid ho.rd
 have B5:=Lib.hid (B4.out.trans (hb.mono B4.out.size))
 clear hb ho
 have S5:Hid (SizeOk w5 ps a0 a5 (sumQ ps.length [la,lb] [1,-1]) (2 * D + 5)) :=
  ⟨(HA.out.below B5.out).rp,Hr5.out,sum_pair_len HA.out.len HB.out.len,Hn.out,HA.out.pr,sum_pair_sm HA.out.sm HB.out.sm Sm.one Sm.minus,by have:=HD.out; omega⟩
 have Ht:=Lib.hid (terms_ok (c0:=c0) (c:=c5) S5.out (HL.out.below B5.out))
 go_wp2_with fail
 refine Calls.mono Ht.out ?_
 rintro e w6 ⟨b1,d1,b2,d2,rfl,T,hb⟩
 have B6:=Lib.hid (B5.out.trans (hb.mono B5.out.size))
 have Hg:Hid (Gives Tryz.prog 67 #[.agg (tcells b1 d1 b2 d2 (tlQ ps (sumQ ps.length [la,lb] [1,-1])).length (tden (sumQ ps.length [la,lb] [1,-1])))] w6 (.int .i64 r)):=by
  rw [Hsg.out]; exact sign_quick w6 b1 b2 d1 d2 _ _ T (HL.out.below B6.out) Hq.out
 clear hb T
 go_wp2_with fail
 refine Calls.mono Hg.out ?_
 rintro e w7 ⟨rfl,hb⟩
 have B7:=Lib.hid (B6.out.trans (hb.mono B6.out.size))
 clear hb
 go_wp2_with fail
 go_ret
 exact ⟨rfl,B7.out⟩
end Go.Proofs.YtlomhfknmhaboaaGreatDoor

namespace Go.Proofs.YtlomhfknmhaboaaGreatDoor
open Go.RowKit
theorem sgo_ok:∀ (l:List Rat),(∀ q∈l,Sm 30 q)→sgo (l.map qs)=0
 | [],_=>rfl
 | q :: l,h=>by
  have h1:∃ p:Rat,qs q=qs p∧Sm 400 p:=⟨q,rfl,(h q List.mem_cons_self).le (by decide)⟩
  have h2:∃ p:Rat,qs q=qs p∧shortQ p:=⟨q,rfl,h q List.mem_cons_self⟩
  rw [List.map_cons,sgo,if_pos h1,if_pos h2]
  exact sgo_ok l fun p hp=>h p (List.mem_cons_of_mem _ hp)
theorem scode_ok {n:Nat} {l:List Rat} (h:∀ q∈l,Sm 30 q) (hl:l.length=n):scode n (l.map qs)=0:=by
 unfold scode
 rw [if_pos (by rw [List.length_map]; exact hl),sgo_ok l h]
theorem itx_size (z:Int) (D:Nat) (hD:0 < D) (h:z.natAbs < 10 ^ D):(itx z).size≤D + 1:=by
 have h1:=(size_lt z.natAbs D hD).2 h
 have h2:=itx_size_le z
 omega
theorem ssz_ok {l:List Rat} (h:∀ q∈l,Sm 30 q):Ssz (l.map qs):=fun x hx=>by
 obtain ⟨q,hq,rfl⟩:=List.mem_map.1 hx
 have h1:=itx_size q.num 30 (by decide) (h q hq).1
 have h2:=(size_lt q.den 30 (by decide)).2 (h q hq).2
 exact ⟨Nat.le_trans h1 (by decide),Nat.le_trans h2 (by decide)⟩
theorem lcode_two {ps:List Int} {la lb:List Rat} (hp:pcode ps=0) (ha:∀ q∈la,Sm 30 q) (hb:∀ q∈lb,Sm 30 q) (h1:la.length=ps.length) (h2:lb.length=ps.length):lcode ps [la.map qs,lb.map qs]=0:=by
 unfold lcode
 rw [if_pos hp,lgo,if_pos (scode_ok ha h1),lgo,if_pos (scode_ok hb h2),lgo]
theorem SizeOk.le {w:World} {ps:List Int} {a0 a:Option Addr} {l:List Rat} {D E:Nat} (h:SizeOk w ps a0 a l D) (hE:D≤E) (h1:E≤1000):SizeOk w ps a0 a l E :=
 ⟨h.rp,h.rl,h.len,h.n,h.pr,fun q hq=>(h.sm q hq).le hE,h1⟩
theorem checkAll_two (W:World) (ps:List Int) (g:Nat) (a0 a1 a2:Option Addr) (c0 c1 c2:Nat) (la lb:List Rat) (A:SizeOk W ps a0 a1 la 30) (B:SizeOk W ps a0 a2 lb 30) (hp:pcode ps=0) (L:Laid W)
  (h1:W.heap[g]?=some (.cells #[.slice a1 la.length c1,.slice a2 lb.length c2] 34 (0,0))) :
  Gives Tryz.prog 52 #[.slice a0 ps.length c0,.slice (some ⟨g,0,none⟩) 2 2] W (.int .i64 0):=by
 have h1':W.heap[g]?=some (.cells #[.slice a1 (la.map qs).length c1,.slice a2 (lb.map qs).length c2] 34 (0,0)):=by rw [List.length_map,List.length_map]; exact h1
 have hn:=A.n
 have e1:=A.len
 have e2:=B.len
 have h:=checkAll_any W a0 _ c0 2 ps [la.map qs,lb.map qs] A.rp A.i64 (by omega) (rdl_two h1' A.rl B.rl) (by simp)
  (by
   intro l hl
   simp only [List.mem_cons,List.not_mem_nil,or_false] at hl
   rcases hl with rfl | rfl
   ·exact ⟨by rw [List.length_map]; omega,ssz_ok A.sm⟩
   ·exact ⟨by rw [List.length_map]; omega,ssz_ok B.sm⟩) L
 rw [lcode_two hp A.sm B.sm e1 e2] at h
 exact h
set_option maxRecDepth 100000 in
set_option maxHeartbeats 8000000 in
theorem Compare_quick (w:World) (ps:List Int) (a0 a1 a2:Option Addr) (c0 c1 c2:Nat) (la lb:List Rat) (A:SizeOk w ps a0 a1 la 30) (B:SizeOk w ps a0 a2 lb 30) (hp:pcode ps=0) (L:Laid w)
  (hq:tlQ ps (sumQ ps.length [la,lb] [1,-1])=[]∨quickV (tlQ ps (sumQ ps.length [la,lb] [1,-1]))≠0) :
  Gives Tryz.prog 21 #[.slice a0 ps.length c0,.slice a1 la.length c1,.slice a2 lb.length c2] w (.tuple #[.int .i64 (sgnQ ps (sumQ ps.length [la,lb] [1,-1])),.int .i64 0]):=by
 unfold Gives
 have Hc:Hid (∀ W,Below w.heap.size w W→Gives Tryz.prog 64 #[.slice a0 ps.length c0,.slice a1 la.length c1,.slice a2 lb.length c2] W (.int .i64 (sgnQ ps (sumQ ps.length [la,lb] [1,-1])))):=fun W hW =>
  compare_quick W ps a0 a1 a2 c0 c1 c2 30 la lb (A.below hW) (B.below hW) (L.below hW) (by decide) hq
 have Hk:Hid (∀ W g,Below w.heap.size w W→W.heap[g]?=some (.cells #[.slice a1 la.length c1,.slice a2 lb.length c2] 34 (0,0))→Gives Tryz.prog 52 #[.slice a0 ps.length c0,.slice (some ⟨g,0,none⟩) 2 2] W (.int .i64 0)):=fun W g hW hg =>
  checkAll_two W ps g a0 a1 a2 c0 c1 c2 la lb (A.below hW) (B.below hW) hp (L.below hW) hg
 clear A B hp L hq
 generalize sgnQ ps (sumQ ps.length [la,lb] [1,-1])=r at *
 go_enter Tryz.func21,Tryz.ntmps21
 go_wp2_with fail
 have B1:=Lib.hid ((Below.refl w.heap.size w).alloc nr_ (.cells #[.slice a1 la.length c1,.slice a2 lb.length c2] 34))
 refine Calls.mono (Hk.out _ _ B1.out (heap_at w _ _ _ rfl)) ?_
 rintro e w1 ⟨rfl,hb⟩
 have B2:=Lib.hid (B1.out.trans (hb.mono B1.out.size))
 clear hb Hk B1
 go_wp2_with fail
 refine Calls.mono (Hc.out _ B2.out) ?_
 rintro e w2 ⟨rfl,hb⟩
 have B3:=Lib.hid (B2.out.trans (hb.mono B2.out.size))
 clear hb Hc
 go_wp2_with fail
 go_ret2
 exact ⟨rfl,B3.out⟩
set_option maxRecDepth 100000 in
set_option maxHeartbeats 8000000 in
theorem checkQuotient_ok (w:World) (ps:List Int) (a0 a1 a2:Option Addr) (c0 c1 c2:Nat) (la lb:List Rat) (A:SizeOk w ps a0 a1 la 30) (B:SizeOk w ps a0 a2 lb 30) (hp:pcode ps=0) (L:Laid w)
  (hq:tlQ ps lb≠[]) :
  Gives Tryz.prog 74 #[.slice a0 ps.length c0,.slice a1 la.length c1,.slice a2 lb.length c2] w (.int .i64 0):=by
 unfold Gives
 have HB:=Lib.hid B
 have HL:=Lib.hid L
 have Hk:Hid (∀ W g,Below w.heap.size w W→W.heap[g]?=some (.cells #[.slice a1 la.length c1,.slice a2 lb.length c2] 34 (0,0))→Gives Tryz.prog 52 #[.slice a0 ps.length c0,.slice (some ⟨g,0,none⟩) 2 2] W (.int .i64 0)):=fun W g hW hg =>
  checkAll_two W ps g a0 a1 a2 c0 c1 c2 la lb (A.below hW) (B.below hW) hp (L.below hW) hg
 have hz:(((tlQ ps lb).length:Int) == 0)=false:=by
  rw [beq_eq_false_iff_ne]
  intro h
  exact hq (List.eq_nil_of_length_eq_zero (by omega))
 have Ht:Hid (∀ W,Below w.heap.size w W→Calls Tryz.prog 66 #[.slice a0 ps.length c0,.slice a2 lb.length c2] W fun e w'=>∃ b1 d1 b2 d2,e = .returned (.agg (tcells b1 d1 b2 d2 (tlQ ps lb).length (tden lb)))∧TermsAt w' (tlQ ps lb) b1 b2∧Below W.heap.size W w'):=fun W hW =>
  terms_ok (HB.out.below hW) (HL.out.below hW)
 clear A B hp L hq HB HL
 generalize (tlQ ps lb).length=m at *
 go_enter Tryz.func74,Tryz.ntmps74
 go_wp2_with fail
 have B1:=Lib.hid ((Below.refl w.heap.size w).alloc nr_ (.cells #[.slice a1 la.length c1,.slice a2 lb.length c2] 34))
 refine Calls.mono (Hk.out _ _ B1.out (heap_at w _ _ _ rfl)) ?_
 rintro e w1 ⟨rfl,hb⟩
 have B2:=Lib.hid (B1.out.trans (hb.mono B1.out.size))
 clear hb Hk B1
 go_wp2_with fail
 refine Calls.mono (Ht.out _ B2.out) ?_
 rintro e w2 ⟨b1,d1,b2,d2,rfl,T,hb⟩
 have B3:=Lib.hid (B2.out.trans (hb.mono B2.out.size))
 clear hb Ht T
 have hf:∀ W:World,(Instr.field 103 (.agg (tcells b1 d1 b2 d2 m (tden lb))) 0).run Tryz.prog W = .ok (.slice b1 m d1) W:=fun W=>by rfl
 go_wp2_with fail
 go_ret
 exact ⟨rfl,B3.out⟩
end Go.Proofs.YtlomhfknmhaboaaGreatDoor

namespace Go.Proofs.YtlomhfknmhaboaaGreatDoor.RX
open Go Go.Sort Go.Proofs.YtlomhfknmhaboaaGreatDoor
section
variable {P:Program} {ops:Array Oper} {md:Region.Mode} {C:World→Prop}
def noEnter:Op→Bool
 | .move _ | .assign _ | .load _ _ | .fieldAddr _ _ _ | .indexAddr _ _ _ | .extract _ _ | .binOp _ _ _ _ _ | .convert _ _ _=>true
 | _=>false
theorem value_no_enter {s:Sem Value} {w w':World} {f:FuncId} {args:Array Value} (h:(do pure (Next.value (← s)):Sem Next).run P w = .ok (.enter f args) w'):False:=by
 simp only [Sem.run_bind,Sem.run_pure] at h
 cases hs:s.run P w with
 | ok v w1=>rw [hs] at h; simp [Result.andThen] at h
 | halt x w1=>rw [hs] at h; simp [Result.andThen] at h
theorem no_enter {o:Oper} {a:Act} {w w':World} {f:FuncId} {args:Array Value} (ho:noEnter o.op=true) (h:(execOp a.eval o).run P w = .ok (.enter f args) w'):False:=by
 have cases5:(∃ x,o.op = .move x)∨(∃ x,o.op = .assign x)∨(∃ t x,o.op = .load t x)∨(∃ t x k,o.op = .fieldAddr t x k)∨(∃ t x y,o.op = .indexAddr t x y)∨(∃ x k,o.op = .extract x k)∨(∃ b t x y r,o.op = .binOp b t x y r)∨(∃ s d x,o.op = .convert s d x):=by
  cases hop:o.op <;> rw [hop] at ho <;> first | (simp [noEnter] at ho; done) | simp
 rcases cases5 with ⟨x,hop⟩ | ⟨x,hop⟩ | ⟨t,x,hop⟩ | ⟨t,x,k,hop⟩ | ⟨t,x,y,hop⟩ | ⟨x,k,hop⟩ | ⟨b,t,x,y,r,hop⟩ | ⟨s,d,x,hop⟩
 ·rw [BigFrame.run_move x hop] at h; cases h
 ·rw [BigFrame.run_assign x hop] at h; cases h
 all_goals
  unfold execOp at h
  rw [hop] at h
  exact value_no_enter h
theorem still_of_quiet {o:Oper} {a:Act} {w:World} {v:Value} (ho:noEnter o.op=true) (h:o.quietAt P a C w v) {K:Act→World→Prop} (hk:K (a.put o.dst v) w):o.wp P a w K (fun _ _ _=>False):=by
 unfold Oper.quietAt at h
 unfold Oper.wp
 have hne:=@no_enter P o a w
 generalize (execOp a.eval o).run P w=r at *
 cases r with
 | ok n w' =>
  cases n <;> simp only [Oper.quietUpon] at h <;> simp only [Oper.upon]
  case value u=>obtain ⟨rfl,rfl⟩:=h; exact hk
  case skip=>obtain ⟨rfl,rfl⟩:=h; exact hk
  case enter f args=>exact (hne ho rfl).elim
 | halt x w'=>simp only [Oper.quietUpon] at h
def safeW (C:World→Prop) (s:Nat) (listed:Array Bool) (w:World):Prop:=listed.getD s false=true∨C w
def anyR (P:Program) (md:Region.Mode) (ops:Array Oper) (C:World→Prop) (s:Nat) (Q:Act→World→Prop):Nat→Array Bool→Act→World→Prop
 | 0,listed,a,w=>Region.ready md ops listed=[]∧Q a w
 | f + 1,listed,a,w=>Region.ready md ops listed≠[]∧∀ i∈Region.ready md ops listed,
   wpOp P ops (fun _ _ _=>False) i (fun a' w'=>safeW C s (listed.setIfInBounds i true) w'∧anyR P md ops C s Q f (listed.setIfInBounds i true) a' w') a w
theorem wp_weaken {o:Oper} {a:Act} {w:World} {K:Act→World→Prop} {Q':Exit→Act→World→Prop} (h:o.wp P a w K (fun _ _ _=>False)):o.wp P a w K Q':=by
 unfold Oper.wp at *
 generalize (execOp a.eval o).run P w=r at *
 cases r with
 | ok n w' =>
  cases n <;> simp only [Oper.upon] at h ⊢ <;>
   first
    | exact h
    | exact Calls.mono h (fun e w'' he=>by cases e <;> first | exact he | exact he.elim | (obtain ⟨_,_,hf⟩:=he; exact hf.elim))
    | exact Rows.mono h (fun _ _ he=>he)
 | halt x w'=>cases x <;> simp only [Oper.upon] at h <;> exact h.elim
theorem wpOp_weaken {i:Nat} {a:Act} {w:World} {K K':Act→World→Prop} {Q':Exit→Act→World→Prop} (hk:∀ a w,K a w→K' a w) (h:wpOp P ops (fun _ _ _=>False) i K a w):wpOp P ops Q' i K' a w:=by
 unfold wpOp at *
 split
 ·rename_i ho; simp only [ho] at h; exact hk _ _ h
 ·rename_i o ho
  simp only [ho] at h
  split
  ·rename_i hw
   simp only [hw,if_true] at h
   rcases h with h | ⟨_,_,_,hf⟩
   ·exact .inl (Oper.wp_mono hk (wp_weaken h))
   ·exact hf.elim
  ·rename_i hw; simp only [hw] at h; exact hk _ _ h
theorem wpOp_strong {i:Nat} {a:Act} {w:World} {K:Act→World→Prop} {Q':Exit→Act→World→Prop} (hq:∀ e a w,Q' e a w→e = .normal) (h:wpOp P ops Q' i K a w):wpOp P ops (fun _ _ _=>False) i K a w:=by
 have hout:¬ LetsOut Q':=fun ⟨a,w,h⟩=>by have:=hq _ _ _ h; cases this
 unfold wpOp at *
 split
 ·rename_i ho; simp only [ho] at h; exact h
 ·rename_i o ho
  simp only [ho] at h
  split
  ·rename_i hw
   simp only [hw,if_true] at h
   rcases h with h | ⟨_,h⟩
   ·left
    unfold Oper.wp at *
    generalize (execOp a.eval o).run P w=r at *
    cases r with
    | ok n w' =>
     cases n <;> simp only [Oper.upon] at h ⊢ <;>
      first
       | exact h
       | exact Calls.mono h (fun e w'' he=>by cases e <;> first | exact he | (have:=hq _ _ _ he; cases this) | exact absurd he hout)
       | exact Rows.mono h (fun _ _ he=>he)
    | halt x w'=>cases x <;> simp only [Oper.upon] at h <;> first | exact h.elim | (have:=hq _ _ _ h; cases this)
   ·exact absurd h hout
  ·rename_i hw; simp only [hw] at h; exact h
theorem anyR_any {s:Nat} {Q:Act→World→Prop} {Q':Exit→Act→World→Prop} (hQ:∀ a w,Q a w→Q' .normal a w) :
  ∀ (f:Nat) (listed:Array Bool) (a:Act) (w:World),anyR P md ops C s Q f listed a w→wpAny P md ops Q' f listed a w
 | 0,_,_,_,h=>⟨h.1,hQ _ _ h.2⟩
 | f + 1,_,_,_,h=>⟨fun h0=>absurd h0 h.1,fun i hi=>wpOp_weaken (fun a' w' h'=>anyR_any hQ f _ a' w' h'.2) (h.2 i hi)⟩
structure RInv (md:Region.Mode) (ops:Array Oper) (listed:Array Bool):Prop where
 size:listed.size=ops.size
 closed:∀ j oj,ops[j]?=some oj→listed.getD j false=true→∀ e∈oj.after,Region.binds md e=true→listed.getD e.on false=true
theorem RInv.set {i:Nat} {listed:Array Bool} (inv:RInv md ops listed) (hi:i∈Region.ready md ops listed):RInv md ops (listed.setIfInBounds i true):=by
 obtain ⟨_,oi,hoi,hall⟩:=mem_ready.1 hi
 refine ⟨by simp [inv.size],fun j oj hj hl e he hb=>?_⟩
 by_cases hij:i=j
 ·subst hij
  have:oj=oi:=Option.some.inj (hj.symm.trans hoi)
  subst this
  exact getD_set_true (hall e he hb)
 ·rw [getD_set_ne false hij] at hl
  exact getD_set_true (inv.closed j oj hj hl e he hb)
def reachB (md:Region.Mode) (ops:Array Oper):Nat→Nat→Nat→Bool
 | 0,_,_=>false
 | f + 1,s,i=>match ops[s]? with
  | some o=>o.after.any fun e=>Region.binds md e && (e.on == i || reachB md ops f e.on i)
  | none=>false
theorem reach_listed {listed:Array Bool} (inv:RInv md ops listed):∀ (f s i:Nat),reachB md ops f s i=true→listed.getD s false=true→listed.getD i false=true
 | 0,_,_,h,_=>by cases h
 | f + 1,s,i,h,hs=>by
  unfold reachB at h
  split at h
  ·rename_i o ho
   obtain ⟨e,he,hb⟩:=Array.any_eq_true'.1 h
   simp only [Bool.and_eq_true,Bool.or_eq_true,beq_iff_eq] at hb
   have hl:=inv.closed s o ho hs e he hb.1
   rcases hb.2 with h2 | h2
   ·rw [← h2]; exact hl
   ·exact reach_listed inv f e.on i h2 hl
  ·cases h
def ReadsIn (P:Program) (ops:Array Oper) (md:Region.Mode) (C:World→Prop) (s i:Nat) (o:Oper) (v:Value) (a:Act):Prop :=
 (reachB md ops 4 s i=true∧YieldsIn P ops C o v a)∨YieldsIn P ops (fun _=>True) o v a
theorem ReadsIn.of_same {s i:Nat} {o:Oper} {v:Value} {a a':Act} (hy:ReadsIn P ops md C s i o v a) (he:execOp a'.eval o=execOp a.eval o)
  (hw:Region.wanted o (yielded ops a'.tmps)=Region.wanted o (yielded ops a.tmps)):ReadsIn P ops md C s i o v a' :=
 hy.imp (fun ⟨h1,h2⟩=>⟨h1,h2.of_same he hw⟩) (fun h=>h.of_same he hw)
theorem reads_op {s i:Nat} {o:Oper} {v:Value} {a:Act} {w:World} {listed:Array Bool} (hi:ops[i]?=some o) (hne:noEnter o.op=true) (inv:RInv md ops listed) (hr:i∈Region.ready md ops listed) (hs:safeW C s listed w)
  (hy:ReadsIn P ops md C s i o v a) {K:Act→World→Prop} (hk:K (a.put o.dst v) w):wpOp P ops (fun _ _ _=>False) i K a w:=by
 have key:∀ D:World→Prop,D w→YieldsIn P ops D o v a→wpOp P ops (fun _ _ _=>False) i K a w:=fun D hD h=>by
  unfold wpOp
  simp only [hi]
  rcases h with ⟨h1,h2⟩ | ⟨h1,rfl⟩
  ·simp only [h1,if_true]
   exact .inl (still_of_quiet hne (h2 w hD) hk)
  ·simp only [h1,Bool.false_eq_true,if_false]
   exact hk
 rcases hy with ⟨hw,h⟩ | h
 ·refine key C ?_ h
  rcases hs with hs | hs
  ·have:=reach_listed inv 4 s i hw hs
   rw [getD_both (mem_ready.1 hr).1] at this
   cases this
  ·exact hs
 ·exact key _ trivial h
theorem wpOp_put {j:Nat} {oi oj:Oper} {v:Value} (hj:ops[j]?=some oj) (hap:oi.apart ops oj=true)
  (hsi:∀ cs b,oi.op ≠ .select cs b) (hsj:∀ cs b,oj.op ≠ .select cs b) {s i:Nat} {K:Act→World→Prop} {a:Act} {w:World}
  (hy:ReadsIn P ops md C s i oi v a) (h:wpOp P ops (fun _ _ _=>False) j K (a.put oi.dst v) w) :
  wpOp P ops (fun _ _ _=>False) j (fun a' w'=>ReadsIn P ops md C s i oi v a'∧K (a'.put oi.dst v) w') a w:=by
 obtain ⟨h1,h2,h3⟩:=Oper.apart_spec hap
 have keep:∀ (a:Act),ReadsIn P ops md C s i oi v a→∀ u,ReadsIn P ops md C s i oi v (a.put oj.dst u):=fun a hy u =>
  hy.of_same (execOp_put oi hsi a oj.dst u h3) (wanted_put oi a oj.dst u h3)
 have keepd:∀ d,ReadsIn P ops md C s i oi v ({ a with defers:=d :: a.defers }:Act):=fun d=>hy.of_same rfl rfl
 unfold wpOp at *
 simp only [hj] at *
 rw [wanted_put oj a oi.dst v h1] at h
 split
 ·rename_i hw
  simp only [hw,if_true] at h
  left
  rcases h with h | ⟨_,_,_,hf⟩
  ·unfold Oper.wp at *
   rw [execOp_put oj hsj a oi.dst v h1] at h
   generalize (execOp a.eval oj).run P w=r at *
   cases r with
   | ok n w' =>
    cases n <;> simp only [Oper.upon] at h ⊢
    case value u=>exact ⟨keep a hy u,by rw [← Act.put_comm a v u h2]; exact h⟩
    case skip=>exact ⟨keep a hy undef,by rw [← Act.put_comm a v undef h2]; exact h⟩
    case defer d =>
     refine ⟨keep _ (keepd d) undef,?_⟩
     rw [Act.put_defers] at h
     rw [← Act.put_comm _ v undef h2]
     exact h
    case enter f args =>
     exact Calls.mono h (fun e w'' he=>by
      cases e
      case returned u=>exact ⟨keep a hy u,by rw [← Act.put_comm a v u h2]; exact he⟩
      case panicked c=>exact he
      case outgrown=>obtain ⟨_,_,hf⟩:=he; exact hf.elim)
    case row row args=>exact Rows.mono h (fun u w'' he=>⟨keep a hy u,by rw [← Act.put_comm a v u h2]; exact he⟩)
    all_goals exact h
   | halt x w'=>cases x <;> simp only [Oper.upon] at h <;> exact h.elim
  ·exact hf.elim
 ·rename_i hw
  simp only [hw] at h
  exact ⟨keep a hy _,by rw [← Act.put_comm a v undef h2]; exact h⟩
theorem anyR_first {s i:Nat} {oi:Oper} {v:Value} {Q:Act→World→Prop} (hi:ops[i]?=some oi) (his:i≠s) (hne:noEnter oi.op=true) (hsel:∀ (j:Nat) (o:Oper) cs b,ops[j]?=some o→o.op ≠ .select cs b) :
  ∀ (f:Nat) (listed:Array Bool) (a:Act) (w:World),RInv md ops listed →
   (∀ j oj,ops[j]?=some oj→j≠i→listed.getD j true=false→(∀ e∈oj.after,Region.binds md e=true→e.on≠i)→oi.apart ops oj=true) →
   i∈Region.ready md ops listed→ReadsIn P ops md C s i oi v a→safeW C s listed w →
   anyR P md ops C s Q f (listed.setIfInBounds i true) (a.put oi.dst v) w→anyR P md ops C s Q (f + 1) listed a w:=by
 intro f
 induction f with
 | zero =>
  intro listed a w inv _ hr hy hs H
  refine ⟨fun h=>(by rw [h] at hr; cases hr),fun j hj=>?_⟩
  by_cases hji:j=i
  ·subst hji
   exact reads_op hi hne inv hr hs hy ⟨hs.imp (fun h=>getD_set_true h) id,H⟩
  ·have:=ready_mono hj hji
   rw [H.1] at this
   cases this
 | succ f ih =>
  intro listed a w inv hfree hr hy hs H
  have hun:=(mem_ready.1 hr).1
  refine ⟨fun h=>(by rw [h] at hr; cases hr),fun j hj=>?_⟩
  by_cases hji:j=i
  ·subst hji
   exact reads_op hi hne inv hr hs hy ⟨hs.imp (fun h=>getD_set_true h) id,H⟩
  ·have h1:=H.2 j (ready_mono hj hji)
   obtain ⟨hjun,oj,hoj,hall⟩:=mem_ready.1 hj
   have hnot:∀ e∈oj.after,Region.binds md e=true→e.on≠i:=fun e he hb heq=>by
    have h1:=hall e he hb
    rw [heq,getD_both hun] at h1
    cases h1
   have h2:=wpOp_put hoj (hfree j oj hoj hji hjun hnot) (fun cs b=>hsel i oi cs b hi) (fun cs b=>hsel j oj cs b hoj) hy h1
   have hfree':∀ k ok,ops[k]?=some ok→k≠i→(listed.setIfInBounds j true).getD k true=false →
     (∀ e∈ok.after,Region.binds md e=true→e.on≠i)→oi.apart ops ok=true:=fun k ok hk hki hun hno=>by
    refine hfree k ok hk hki ?_ hno
    by_cases hjk:j=k
    ·subst hjk; exact hjun
    ·rw [getD_set_ne true hjk] at hun; exact hun
   have hr':=ready_mono hr (Ne.symm hji)
   refine wpOp_mono (fun a' w' h3=>?_) h2
   obtain ⟨hy',hs',H'⟩:=h3
   have hs2:safeW C s (listed.setIfInBounds j true) w':=by
    rcases hs' with h | h
    ·rw [Array.setIfInBounds_comm _ _ (Ne.symm hji),getD_set_ne false his] at h
     exact .inl h
    ·exact .inr h
   refine ⟨hs2,ih (listed.setIfInBounds j true) a' w' (inv.set hj) hfree' hr' hy' hs2 ?_⟩
   rw [Array.setIfInBounds_comm _ _ hji]
   exact H'
def ordB (md:Region.Mode) (ops:Array Oper) (s:Nat):List (Nat×Nat)→Array Bool→Bool
 | [],listed=>(Region.ready md ops listed).isEmpty
 | (k,i) :: l,listed =>
  (if k=0 then decide (Region.ready md ops listed=[i])
  else (Region.ready md ops listed).contains i && Region.free md ops listed i && (match ops[i]? with | some o=>noEnter o.op | none=>false) && decide (i≠s) && (k == 2 || reachB md ops 4 s i)) &&
  ordB md ops s l (listed.setIfInBounds i true)
def walkR (P:Program) (ops:Array Oper) (C:World→Prop) (s:Nat) (Q:Act→World→Prop):List (Nat×Nat)→Bool→Act→World→Prop
 | [],_,a,w=>Q a w
 | (k,i) :: l,b,a,w =>
  if k=0 then wpList P ops (fun e a' w'=>e = .normal∧((b || i == s)=true∨C w')∧walkR P ops C s Q l (b || i == s) a' w') (ops[i]?).toList a w
  else if k=2 then wpQuiet P ops (fun _=>True) (fun a'=>walkR P ops C s Q l b a' w) (ops[i]?).toList a
  else wpQuiet P ops C (fun a'=>walkR P ops C s Q l b a' w) (ops[i]?).toList a
theorem qOp_of_list {i:Nat} {o:Oper} {a:Act} {D:World→Prop} {K:Act→Prop} (hi:ops[i]?=some o) (h:wpQuiet P ops D K (ops[i]?).toList a):qOp P ops D i K a:=by
 rw [hi] at h
 unfold qOp
 simp only [hi]
 exact h
theorem anyR_walk {s:Nat} {Q:Act→World→Prop} (hsel:Region.noSelect ops=true) :
  ∀ (l:List (Nat×Nat)) (listed:Array Bool) (a:Act) (w:World),RInv md ops listed→safeW C s listed w→ordB md ops s l listed=true →
   walkR P ops C s Q l (listed.getD s false) a w→anyR P md ops C s Q l.length listed a w
 | [],listed,a,w,_,_,hB,h=>⟨by simpa [ordB] using hB,h⟩
 | (k,i) :: l,listed,a,w,inv,hs,hB,h=>by
  simp only [ordB,Bool.and_eq_true] at hB
  obtain ⟨hB1,hB2⟩:=hB
  by_cases hk:k=0
  ·subst hk
   simp only [if_true,decide_eq_true_eq] at hB1
   have hr:i∈Region.ready md ops listed:=by rw [hB1]; exact List.mem_singleton.2 rfl
   have hgs:(listed.setIfInBounds i true).getD s false=(listed.getD s false || i == s):=by
    by_cases his:i=s
    ·subst his
     obtain ⟨hun,o,ho,_⟩:=mem_ready.1 hr
     have hlt:i < listed.size:=by rw [inv.size]; exact (Array.getElem?_eq_some_iff.1 ho).1
     simp [hlt]
    ·rw [getD_set_ne false his]
     simp [his]
   refine ⟨by rw [hB1]; simp,fun j hj=>?_⟩
   rw [hB1] at hj
   obtain rfl:=List.mem_singleton.1 hj
   obtain ⟨hun,o,ho,_⟩:=mem_ready.1 hr
   simp only [walkR,if_true,ho,Option.toList] at h
   have h2:wpOp P ops (fun e a' w'=>e = .normal∧((listed.getD s false || j == s)=true∨C w')∧walkR P ops C s Q l (listed.getD s false || j == s) a' w') j (fun a' w'=>((listed.getD s false || j == s)=true∨C w')∧walkR P ops C s Q l (listed.getD s false || j == s) a' w') a w:=by
    unfold wpOp
    simp only [ho]
    simp only [wpList,true_and] at h
    exact h
   have h3:=wpOp_strong (fun e a' w' hq=>hq.1) h2
   refine wpOp_mono (fun a' w' h4=>?_) h3
   have hs2:safeW C s (listed.setIfInBounds j true) w':=by unfold safeW; rw [hgs]; exact h4.1
   exact ⟨hs2,anyR_walk hsel l _ a' w' (inv.set hr) hs2 hB2 (by rw [hgs]; exact h4.2)⟩
  ·rw [if_neg hk] at hB1
   simp only [Bool.and_eq_true,decide_eq_true_eq,Bool.or_eq_true,beq_iff_eq] at hB1
   obtain ⟨⟨⟨⟨hr,hf⟩,hne⟩,his⟩,hw⟩:=hB1
   have hr':i∈Region.ready md ops listed:=by simpa using hr
   obtain ⟨_,o,ho,_⟩:=mem_ready.1 hr'
   have hne':noEnter o.op=true:=by rw [ho] at hne; exact hne
   have hgs:(listed.setIfInBounds i true).getD s false=listed.getD s false:=getD_set_ne false his
   have hs2:safeW C s (listed.setIfInBounds i true) w:=by unfold safeW; rw [hgs]; exact hs
   simp only [walkR,if_neg hk] at h
   have hread:∃ v,ReadsIn P ops md C s i o v a∧walkR P ops C s Q l (listed.getD s false) (a.put o.dst v) w:=by
    by_cases h2:k=2
    ·rw [if_pos h2] at h
     obtain ⟨v,hy,hK⟩:=yieldsIn_of_qOp ho (qOp_of_list ho h)
     exact ⟨v,.inr hy,hK⟩
    ·rw [if_neg h2] at h
     obtain ⟨v,hy,hK⟩:=yieldsIn_of_qOp ho (qOp_of_list ho h)
     exact ⟨v,.inl ⟨hw.resolve_left h2,hy⟩,hK⟩
   obtain ⟨v,hy,hK⟩:=hread
   exact anyR_first ho his hne' (Region.noSelect_spec hsel) l.length listed a w inv (Region.free_spec ho hf) hr' hy hs
    (anyR_walk hsel l _ _ w (inv.set hr') hs2 hB2 (by rw [hgs]; exact hK))
theorem pick_one:∀ (l:List Oper) (i:Nat),(l.toArray[i]?).toList=(l.drop i).take 1
 | [],i=>by simp
 | o :: l,0=>by simp
 | o :: l,i + 1=>by
  have:=pick_one l i
  simpa using this
theorem walkR_read {s i:Nat} {Q:Act→World→Prop} {l:List (Nat×Nat)} {b:Bool} {a:Act} {w:World} {lo:List Oper} (h:wpQuiet P lo.toArray C (fun a'=>walkR P lo.toArray C s Q l b a' w) ((lo.drop i).take 1) a):walkR P lo.toArray C s Q ((1,i) :: l) b a w:=by
 simp only [walkR,pick_one]
 exact h
theorem walkR_any {s i:Nat} {Q:Act→World→Prop} {l:List (Nat×Nat)} {b:Bool} {a:Act} {w:World} {lo:List Oper} (h:wpQuiet P lo.toArray (fun _=>True) (fun a'=>walkR P lo.toArray C s Q l b a' w) ((lo.drop i).take 1) a):walkR P lo.toArray C s Q ((2,i) :: l) b a w:=by
 simp only [walkR,pick_one]
 exact h
theorem walkR_move {s i:Nat} {Q:Act→World→Prop} {l:List (Nat×Nat)} {b:Bool} {a:Act} {w:World} {lo:List Oper}
  (h:wpList P lo.toArray (fun e a' w'=>e = .normal∧((b || i == s)=true∨C w')∧walkR P lo.toArray C s Q l (b || i == s) a' w') ((lo.drop i).take 1) a w):walkR P lo.toArray C s Q ((0,i) :: l) b a w:=by
 simp only [walkR,pick_one]
 exact h
theorem wp_region_readers {id:Nat} {Q:Exit→Act→World→Prop} {a:Act} {w:World} {l:List Oper} (s:Nat) (ord:List (Nat×Nat)) (C:World→Prop) (hm:P.follows .mixedOrders=true)
  (hB:(Region.noSelect l.toArray && decide (ord.length=l.length) && ordB .any l.toArray s ord (Array.replicate l.length false))=true)
  (hC:C { w with drawn:=w.drawn + 1 }) (h:walkR P l.toArray C s (fun a' w'=>Q .normal a' w') ord false a { w with drawn:=w.drawn + 1 }):(Code.region id l.toArray true).wp P Q a w:=by
 simp only [Bool.and_eq_true,decide_eq_true_eq] at hB
 obtain ⟨⟨hsel,hlen⟩,hord⟩:=hB
 refine wp_region_any hm ?_
 have inv0:RInv .any l.toArray (Array.replicate l.length false):=⟨by simp,fun j oj _ hl=>(by rw [getD_replicate_false] at hl; cases hl)⟩
 have H:=anyR_walk (md := .any) hsel ord _ a _ inv0 (.inr hC) hord (by rw [getD_replicate_false]; exact h)
 have:=anyR_any (Q':=Q) (fun a w h=>h) _ _ _ _ H
 rw [hlen] at this
 simpa using this
end
end Go.Proofs.YtlomhfknmhaboaaGreatDoor.RX

namespace Go.Proofs.YtlomhfknmhaboaaGreatDoor
open Go.RowKit
theorem fieldsQ : (Tryz.prog.fieldsOf 30).toList.map (fun f => (f.name, f.type, f.offset)) = [("Num", 28, 0), ("Den", 28, 1)] := by kernel_rfl
theorem stoodQ:Tryz.prog.stoodInHeld 30=false:=by kernel_rfl
theorem guardQ:Tryz.prog.eqGuardType Tryz.prog.depth 30=false:=by kernel_rfl
theorem eqFields_two (W : World) (d : Nat) (s t s' t' : ByteArray) (fs : List Field) (h : fs.map (fun f => (f.name, f.type, f.offset)) = [("Num", 28, 0), ("Den", 28, 1)]) :
  (Op.eqFields (d + 1) #[.string s,.string t] #[.string s',.string t'] fs).run Tryz.prog W = .ok (s.toList == s'.toList && t.toList == t'.toList) W:=by
 obtain ⟨f,g,rfl⟩:∃ f g,fs=[f,g]:=by
  have hl:=congrArg List.length h
  rw [List.length_map] at hl
  cases fs with
  | nil=>simp at hl
  | cons f fs =>
   cases fs with
   | nil=>simp at hl
   | cons g fs =>
    cases fs with
    | nil=>exact ⟨f,g,rfl⟩
    | cons x fs=>simp at hl
 simp only [List.map_cons,List.map_nil,List.cons.injEq,Prod.mk.injEq,and_true] at h
 obtain ⟨⟨h1,h2,h3⟩,h4,h5,h6⟩:=h
 have hu:=Tryz.underlying28
 simp [Op.eqFields,h1,h2,h3,h4,h5,h6,go_sem,hu]
 by_cases q1:s.toList=s'.toList <;> by_cases q2:t.toList=t'.toList <;> simp [q1,q2]
theorem structQ:Tryz.prog.underlying 30=some (.struct (Tryz.prog.fieldsOf 30)):=by
 have h:=Tryz.underlying30
 unfold Program.fieldsOf
 rw [h]
theorem neqQ_run (W:World) (s t s' t':ByteArray) :
  (binOp .neq 30 (.agg #[.string s,.string t]) (.agg #[.string s',.string t'])).run Tryz.prog W = .ok (.bool (!(s.toList == s'.toList && t.toList == t'.toList))) W:=by
 rw [run_neq_struct,show (10000:Nat)=9998 + 1 + 1 from rfl,run_equalIn_agg (ht:=structQ) (hp:=stoodQ),eqFields_two W _ s t s' t' _ fieldsQ]
 rfl
theorem eqlQ_run (W:World) (s t s' t':ByteArray) :
  (binOp .eql 30 (.agg #[.string s,.string t]) (.agg #[.string s',.string t'])).run Tryz.prog W = .ok (.bool (s.toList == s'.toList && t.toList == t'.toList)) W:=by
 rw [run_eql_struct,show (10000:Nat)=9998 + 1 + 1 from rfl,run_equalIn_agg (ht:=structQ) (hp:=stoodQ),eqFields_two W _ s t s' t' _ fieldsQ]
 rfl
theorem guardQ_run (W:World) (op:BinOp) (x y:Operand) (xs ys:Array Value):(eqGuard op 30 x y (.agg xs) (.agg ys)).run Tryz.prog W = .ok () W:=run_eqGuard_agg W op _ x y xs ys guardQ
theorem toList_inj {a b:ByteArray} (h:(a.toList == b.toList)=true):a=b:=by
 have h1:=eq_of_beq h
 rw [ByteArray.toList_eq,ByteArray.toList_eq] at h1
 exact ByteArray.ext (Array.toList_inj.1 h1)
theorem qs_beq (p q:Rat):((itx p.num).toList == (itx q.num).toList && (dec p.den).toList == (dec q.den).toList)=decide (p=q):=by
 by_cases h:p=q
 ·subst h; simp
 ·rw [decide_eq_false h,Bool.eq_false_iff]
  intro hc
  rw [Bool.and_eq_true] at hc
  exact h (Rat.ext (itx_inj (toList_inj hc.1)) (decB_inj (toList_inj hc.2)))
theorem quiet_neqQ {C:World→Prop} {K:Act→Prop} {a:Act} {o:Oper} (x y:Operand) (r:TypeId) (p q:Rat) (h:o.op = .binOp .neq 30 x y r) (hx:a.eval x = .agg #[.string (itx p.num),.string (dec p.den)]) (hy:a.eval y = .agg #[.string (itx q.num),.string (dec q.den)])
  (hk:K (a.put o.dst (.bool (!decide (p=q))))):o.quiet Tryz.prog a C K :=
 ⟨_,fun w _=>by
  unfold Oper.quietAt execOp
  rw [h]
  simp only [Sem.run_bind,hx,hy,guardQ_run,neqQ_run,Result.andThen_ok,Sem.run_pure,qs_beq]
  exact ⟨rfl,rfl⟩,hk⟩
end Go.Proofs.YtlomhfknmhaboaaGreatDoor

namespace Go.Proofs.YtlomhfknmhaboaaGreatDoor
open Go.RowKit
theorem Sm.inv {D:Nat} {q:Rat} (h:Sm D q) (_:0 < D):Sm D q⁻¹:=by
 have e:q⁻¹=Rat.inv q:=rfl
 have h1:=h.1
 have h2:=h.2
 rw [e]
 unfold Rat.inv
 split
 ·refine ⟨?_,h.1⟩
  show (-(q.den:Int)).natAbs < _
  omega
 ·split
  ·exact ⟨by show ((q.den:Nat):Int).natAbs < _; omega,h.1⟩
  ·exact h
theorem Sm.div {D E:Nat} {a b:Rat} (ha:Sm D a) (hb:Sm E b):Sm (D + E) (a / b):=by
 rw [Rat.div_def]; exact ha.mul (hb.inv hb.pos)
def ratioK (la lb:List Rat):Nat→Rat
 | 0=>0
 | k + 1=>if lb.getD k 0=0 then ratioK la lb k else la.getD k 0 / lb.getD k 0
theorem getD_sm {D:Nat} {l:List Rat} (h:∀ q∈l,Sm D q) (hD:0 < D) (k:Nat):Sm D (l.getD k 0):=by
 rw [List.getD_eq_getElem?_getD]
 rcases Nat.lt_or_ge k l.length with hk | hk
 ·rw [List.getElem?_eq_getElem hk]; exact h _ (List.getElem_mem hk)
 ·rw [List.getElem?_eq_none hk]; exact Sm.zero.le hD
theorem ratioK_sm {D:Nat} {la lb:List Rat} (ha:∀ q∈la,Sm D q) (hb:∀ q∈lb,Sm D q) (hD:0 < D):∀ k,Sm (D + D) (ratioK la lb k)
 | 0=>Sm.zero.le (by omega)
 | k + 1=>by
  unfold ratioK
  split
  ·exact ratioK_sm ha hb hD k
  ·exact (getD_sm ha hD k).div (getD_sm hb hD k)
def ratioB (la lb:List Rat) (n:Nat) (k:Rat):Bool:=decide (∀ j,j < n→k * lb.getD j 0=la.getD j 0)
theorem obj_pair {w:World} {g:Nat} {a b:Value} {t:TypeId} (h:w.heap[g]?=some (.cells #[a,b] t (0,0))) (x y:Value) :
  ((w.setCell ⟨g,0,none⟩ x).setCell ⟨g,1,none⟩ y).heap[g]?=some (.cells #[x,y] t (0,0)):=by
 rw [obj_set (obj_set h 0 x) 1 y]; rfl
theorem obj_pair_other {w:World} {g k:Nat} {o:Obj} (h:w.heap[k]?=some o) (hk:g≠k) (x y:Value) :
  ((w.setCell ⟨g,0,none⟩ x).setCell ⟨g,1,none⟩ y).heap[k]?=some o:=by
 rw [obj_other hk,obj_other hk]; exact h
structure BW (W:World) where
 w:World
 b:Below W.heap.size W w
theorem BW.cell {W:World} {p:Addr} {v:Value} (h:W.cell? p=some v) (q:BW W):q.w.cell? p=some v:=(q.b.cell (block_lt_of_cell h)).trans h
set_option maxRecDepth 100000 in
set_option maxHeartbeats 8000000 in
theorem ratio_any (w:World) (a1 a2:Option Addr) (c1 c2 n D:Nat) (la lb:List Rat) (ra:Rd w a1 (cellsQ la)) (rb:Rd w a2 (cellsQ lb)) (ea:la.length=n) (eb:lb.length=n)
  (sa:∀ q∈la,Sm D q) (sb:∀ q∈lb,Sm D q) (hn:n≤1000) (hD0:0 < D) (hD:D≤1000) (L:Laid w) :
  Gives Tryz.prog 114 #[.slice a1 n c1,.slice a2 n c2] w (.tuple #[fr (ratioK la lb n),.bool (ratioB la lb n (ratioK la lb n))]):=by
 unfold Gives
 have HL:=Lib.hid L
 have Hra:=Lib.hid ra
 have Hrb:=Lib.hid rb
 have Hea:=Lib.hid ea
 have Heb:=Lib.hid eb
 have Hsa:=Lib.hid sa
 have Hsb:=Lib.hid sb
 have HD:=Lib.hid hD
 have HD0:=Lib.hid hD0
 have B0:=Lib.hid ((Below.refl w.heap.size w).alloc nr_ (.cells #[.string ⟨#[]⟩,.string ⟨#[]⟩] 30))
 have K0:=Lib.hid (heap_at w #[.string ⟨#[]⟩,.string ⟨#[]⟩] 30 _ rfl)
 have S0:Hid ((w.alloc (.cells #[.string ⟨#[]⟩,.string ⟨#[]⟩] 30)).heap.size=w.heap.size + 1):=by show (w.heap.push _).size=_; exact Array.size_push ..
 have Hnum:Hid (∀ W,Below w.heap.size w W→Gives Tryz.prog 65 #[.int .i64 0] W (.agg #[.string (itx 0),.string (dec 1)])):=fun W hW=>number_any W 0 (by decide) (by decide) (HL.out.below hW)
 clear L ra rb ea eb sa sb hD hD0
 go_enter Tryz.func114,Tryz.ntmps114
 go_wp2_with fail
 generalize w.alloc (.cells #[.string ⟨#[]⟩,.string ⟨#[]⟩] 30)=w0 at *
 refine Calls.mono (Hnum.out _ B0.out) ?_
 rintro e w1 ⟨rfl,hb⟩
 have B1:=Lib.hid (B0.out.trans (hb.mono B0.out.size))
 have K1:=Lib.hid (heap_kept K0.out hb nr_)
 have S1:Hid (w.heap.size + 1≤w1.heap.size):=by show _≤_; have:=hb.size; have:=S0.out; omega
 clear hb K0 B0 S0 Hnum
 go_wp2_with fail
 have B2:=Lib.hid (B1.out.alloc B1.out.size (.cells #[.string (itx 0),.string (dec 1)] 30))
 have K2:=Lib.hid (heap_old K1.out (.cells #[.string (itx 0),.string (dec 1)] 30))
 have M2:=Lib.hid (heap_at w1 #[.string (itx 0),.string (dec 1)] 30 _ rfl)
 have hne:w.heap.size≠w1.heap.size:=by have:=S1.out; omega
 have hge:w.heap.size≤w1.heap.size:=by have:=S1.out; omega
 have Hne:=Lib.hid hne
 have Hge:=Lib.hid hge
 generalize w1.alloc (.cells #[.string (itx 0),.string (dec 1)] 30)=w2 at *
 clear K1 B1 S1 hne hge
 generalize w1.heap.size=g1 at *
 go_loopw [14] (fun i wr=>∃ k:Nat,k≤n∧i = .int .i64 k∧Hid (wr.heap[w.heap.size]?=some (.cells #[.string ⟨#[]⟩,.string ⟨#[]⟩] 30 (0,0)))∧Hid (wr.heap[g1]?=some (.cells #[.string (itx (ratioK la lb k).num),.string (dec (ratioK la lb k).den)] 30 (0,0)))∧Hid (Below w.heap.size w wr)) (fun i _=>n - (intOf i).toNat)
 case atStart=>exact ⟨0,Nat.zero_le _,rfl,K2,M2,B2⟩
 case round =>
  obtain ⟨k,hk,rfl,K,M,B⟩:=hrel
  by_cases hlt:k < n
  ·have hlt':(k:Int) < n:=by omega
   have hkb:k < lb.length:=by rw [Heb.out]; exact hlt
   have hka:k < la.length:=by rw [Hea.out]; exact hlt
   obtain ⟨b,off,rfl,hb,hcells⟩:=Hrb.out.open (by rw [cellsQ_length,Heb.out]; omega)
   obtain ⟨x0,x1⟩:=cellsS_rd hcells k (by rw [List.length_map]; exact hkb)
   rw [← B.out.cell (p:=⟨b,off + k * 2,none⟩) hb,qs_getD _ k hkb] at x0
   rw [← B.out.cell (p:=⟨b,off + k * 2 + 1,none⟩) hb,qs_getD _ k hkb] at x1
   have Hxb:Hid (lb.getD k 0=lb[k]):=by show _=_; rw [List.getD_eq_getElem?_getD,List.getElem?_eq_getElem hkb]; rfl
   have Hxa:Hid (la.getD k 0=la[k]):=by show _=_; rw [List.getD_eq_getElem?_getD,List.getElem?_eq_getElem hka]; rfl
   have Sa:=Lib.hid (Hsa.out _ (List.getElem_mem hka))
   have Sb:=Lib.hid (Hsb.out _ (List.getElem_mem hkb))
   obtain ⟨b',off',rfl,hb',hcells'⟩:=Hra.out.open (by rw [cellsQ_length,Hea.out]; omega)
   obtain ⟨y0,y1⟩:=cellsS_rd hcells' k (by rw [List.length_map]; exact hka)
   rw [← B.out.cell (p:=⟨b',off' + k * 2,none⟩) hb',qs_getD _ k hka] at y0
   rw [← B.out.cell (p:=⟨b',off' + k * 2 + 1,none⟩) hb',qs_getD _ k hka] at y1
   have Hs:Hid (ratioK la lb (k + 1)=if lb.getD k 0=0 then ratioK la lb k else la.getD k 0 / lb.getD k 0):=Lib.hid rfl
   rw [Hxb.out,Hxa.out] at Hs
   generalize lb[k]=xb at *
   generalize la[k]=xa at *
   simp only [qs] at x0 x1 y0 y1
   clear hcells hcells' Hxb Hxa
   by_cases h0:xb=0
   ·subst h0
    have Hs':Hid (ratioK la lb (k + 1)=ratioK la lb k):=by show _=_; rw [Hs.out,if_pos rfl]
    have hz:((itx (0:Int)).toList == [48])=true:=by rw [itx_isz]; rfl
    have B':=Lib.hid (B.out.alloc B.out.size (.cells #[.string (itx 0),.string (dec 1)] 30))
    have K':=Lib.hid (heap_old K.out (.cells #[.string (itx 0),.string (dec 1)] 30))
    have M':=Lib.hid (heap_old M.out (.cells #[.string (itx 0),.string (dec 1)] 30))
    clear Hs y0 y1 B K M Sa Sb
    go_wp2_with fail
    go_roundw
    case rel =>
     refine ⟨k + 1,by omega,by go_num,K',?_,B'⟩
     rw [Hs'.out]
     exact M'
    case measure=>simp [intOf]; omega
   ·have Hs':Hid (ratioK la lb (k + 1)=xa / xb):=by show _=_; rw [Hs.out,if_neg h0]
    have hz:((itx xb.num).toList == [48])=false:=by rw [itx_isz]; exact decide_eq_false fun h=>h0 (Rat.num_eq_zero.1 h)
    have B':=Lib.hid (B.out.alloc B.out.size (.cells #[.string (itx xb.num),.string (dec xb.den)] 30))
    have K':=Lib.hid (heap_old K.out (.cells #[.string (itx xb.num),.string (dec xb.den)] 30))
    have M':=Lib.hid (heap_old M.out (.cells #[.string (itx xb.num),.string (dec xb.den)] 30))
    have N':=Lib.hid (heap_at wr #[.string (itx xb.num),.string (dec xb.den)] 30 _ rfl)
    have W':=Lib.hid ((Below.refl wr.heap.size wr).alloc nr_ (.cells #[.string (itx xb.num),.string (dec xb.den)] 30))
    have Y0:=Lib.hid ((W'.out.cell (p:=⟨b',off' + k * 2,none⟩) (Nat.lt_of_lt_of_le hb' B.out.size)).trans y0)
    have Y1:=Lib.hid ((W'.out.cell (p:=⟨b',off' + k * 2 + 1,none⟩) (Nat.lt_of_lt_of_le hb' B.out.size)).trans y1)
    have HDv:Hid (∀ W,Below w.heap.size w W→Gives Tryz.prog 139 #[fr xa,fr xb] W (.tuple #[fr (xa / xb),.int .i64 0])):=fun W hW =>
     divR W xa xb D D Sa.out Sb.out h0 (by have:=HD.out; omega) (HL.out.below hW)
    unfold fr fv at HDv
    clear Hs y0 y1 B K M Sa Sb h0 W'
    have H0:=Lib.hid (show ((0:Int)≤k∧(k:Int) < n) from ⟨by omega,by omega⟩)
    go_wp2_with fail
    generalize wr.alloc (.cells #[.string (itx xb.num),.string (dec xb.den)] 30)=W0 at *
    clear x0 x1
    obtain ⟨k0,k1,-,-⟩:=two_cells N'.out
    have q0:=BW.cell k0
    have q1:=BW.cell k1
    have q2:=BW.cell Y0.out
    have q3:=BW.cell Y1.out
    have hnon:Nonempty (BW W0):=⟨⟨W0,Below.refl _ _⟩⟩
    clear k0 k1 N'
    refine RX.wp_region_readers 9 [(1,0),(1,1),(1,2),(1,3),(1,4),(0,5),(2,6),(2,7),(2,8),(0,9)] (fun w'=>∃ p:BW W0,w'=p.w) (by kernel_rfl) (by kernel_rfl) ?_ ?_
    ·exact ⟨⟨{ W0 with drawn:=W0.drawn + 1 },⟨rfl,rfl,rfl,Nat.le_refl _,fun _ _=>rfl⟩⟩,rfl⟩
    iterate 5 (refine RX.walkR_read ?_; simp only [dsc_,dz_,tsc_,tz_]; go_big_quiet_step (fail); refine wpQuiet_nil ?_)
    clear q0 q1 q2 q3 hnon
    refine RX.walkR_move ?_
    simp only [dsc_,dz_,tsc_,tz_]
    go_wp2_with fail
    refine Calls.mono (HDv.out _ B'.out.drew) ?_
    rintro e w5 ⟨rfl,hb5⟩
    have W5:Hid (Below W0.heap.size W0 w5):=(Below.refl W0.heap.size W0).drew.trans hb5
    have B5:=Lib.hid (B'.out.trans (W5.out.mono B'.out.size))
    have K5:=Lib.hid (heap_kept K'.out W5.out nr_)
    have M5:=Lib.hid (heap_kept M'.out W5.out nr_)
    clear hb5 HDv K' M' B' Y0 Y1
    go_wp2_with fail
    refine ⟨⟨⟨w5,W5.out⟩,rfl⟩,?_⟩
    refine RX.walkR_any ?_
    simp only [dsc_,dz_,tsc_,tz_]
    go_big_quiet_step (fail)
    refine wpQuiet_nil ?_
    refine RX.walkR_any ?_
    simp only [dsc_,dz_,tsc_,tz_]
    go_big_quiet_step (fail)
    refine wpQuiet_nil ?_
    refine RX.walkR_any ?_
    simp only [dsc_,dz_,tsc_,tz_]
    go_big_quiet_step (fail)
    refine wpQuiet_nil ?_
    obtain ⟨k0,k1,f0,f1⟩:=two_cells M5.out
    refine RX.walkR_move ?_
    simp only [dsc_,dz_,tsc_,tz_]
    go_wp2_with fail
    have B6:=Lib.hid ((B5.out.setCell (p:=⟨g1,0,none⟩) Hge.out (.string (itx (xa / xb).num))).setCell (p:=⟨g1,1,none⟩) Hge.out (.string (dec (xa / xb).den)))
    have M6:=Lib.hid (obj_pair M5.out (.string (itx (xa / xb).num)) (.string (dec (xa / xb).den)))
    have K6:=Lib.hid (obj_pair_other K5.out Hne.out.symm (.string (itx (xa / xb).num)) (.string (dec (xa / xb).den)))
    clear k0 k1 f0 f1 K5 M5 B5 W5
    generalize (w5.setCell ⟨g1,0,none⟩ (.string (itx (xa / xb).num))).setCell ⟨g1,1,none⟩ (.string (dec (xa / xb).den))=w6 at *
    simp only [RX.walkR]
    go_wp2
    go_roundw
    case rel =>
     refine ⟨k + 1,by omega,by go_num,K6,?_,B6⟩
     rw [Hs'.out]
     exact M6
    case measure=>simp [intOf]; omega
  ·have hlt':¬ (k:Int) < n:=by omega
   have hkn:k=n:=by omega
   subst hkn
   clear hk hlt
   generalize hq:ratioK la lb k=q at *
   have Sq:Hid (Sm (D + D) q):=by show Sm _ q; rw [← hq]; exact ratioK_sm Hsa.out Hsb.out HD0.out k
   have Hq:=Lib.hid hq
   clear hq
   go_wp2_with fail
   go_loopw [34] (fun i wr=>∃ j:Nat,j≤k∧i = .int .i64 j∧Hid (∀ i,i < j→q * lb.getD i 0=la.getD i 0)∧Hid (wr.heap[w.heap.size]?=some (.cells #[.string ⟨#[]⟩,.string ⟨#[]⟩] 30 (0,0)))∧Hid (wr.heap[g1]?=some (.cells #[.string (itx q.num),.string (dec q.den)] 30 (0,0)))∧Hid (Below w.heap.size w wr)) (fun i _=>k - (intOf i).toNat)
   case atStart=>exact ⟨0,Nat.zero_le _,rfl,fun i hi=>absurd hi (Nat.not_lt_zero _),K,M,B⟩
   case round =>
    clear K M B
    obtain ⟨j,hj,rfl,Hall,K,M,B⟩:=hrel
    by_cases hlt:j < k
    ·have hlt':(j:Int) < k:=by omega
     have hkb:j < lb.length:=by rw [Heb.out]; exact hlt
     have hka:j < la.length:=by rw [Hea.out]; exact hlt
     obtain ⟨b,off,rfl,hb,hcells⟩:=Hrb.out.open (by rw [cellsQ_length,Heb.out]; omega)
     obtain ⟨x0,x1⟩:=cellsS_rd hcells j (by rw [List.length_map]; exact hkb)
     rw [← B.out.cell (p:=⟨b,off + j * 2,none⟩) hb,qs_getD _ j hkb] at x0
     rw [← B.out.cell (p:=⟨b,off + j * 2 + 1,none⟩) hb,qs_getD _ j hkb] at x1
     have Hxb:Hid (lb.getD j 0=lb[j]):=by show _=_; rw [List.getD_eq_getElem?_getD,List.getElem?_eq_getElem hkb]; rfl
     have Hxa:Hid (la.getD j 0=la[j]):=by show _=_; rw [List.getD_eq_getElem?_getD,List.getElem?_eq_getElem hka]; rfl
     have Sb:=Lib.hid (Hsb.out _ (List.getElem_mem hkb))
     obtain ⟨b',off',rfl,hb',hcells'⟩:=Hra.out.open (by rw [cellsQ_length,Hea.out]; omega)
     obtain ⟨y0,y1⟩:=cellsS_rd hcells' j (by rw [List.length_map]; exact hka)
     rw [← B.out.cell (p:=⟨b',off' + j * 2,none⟩) hb',qs_getD _ j hka] at y0
     rw [← B.out.cell (p:=⟨b',off' + j * 2 + 1,none⟩) hb',qs_getD _ j hka] at y1
     generalize lb[j]=xb at *
     generalize la[j]=xa at *
     simp only [qs] at x0 x1 y0 y1
     have B':=Lib.hid (B.out.alloc B.out.size (.cells #[.string (itx xb.num),.string (dec xb.den)] 30))
     have K':=Lib.hid (heap_old K.out (.cells #[.string (itx xb.num),.string (dec xb.den)] 30))
     have M':=Lib.hid (heap_old M.out (.cells #[.string (itx xb.num),.string (dec xb.den)] 30))
     have N':=Lib.hid (heap_at wr #[.string (itx xb.num),.string (dec xb.den)] 30 _ rfl)
     have W':=Lib.hid ((Below.refl wr.heap.size wr).alloc nr_ (.cells #[.string (itx xb.num),.string (dec xb.den)] 30))
     have Y0:=Lib.hid ((W'.out.cell (p:=⟨b',off' + j * 2,none⟩) (Nat.lt_of_lt_of_le hb' B.out.size)).trans y0)
     have Y1:=Lib.hid ((W'.out.cell (p:=⟨b',off' + j * 2 + 1,none⟩) (Nat.lt_of_lt_of_le hb' B.out.size)).trans y1)
     have HM:Hid (∀ W,Below w.heap.size w W→∀ d os,Calls Tryz.prog 35 #[fr q,fr xb] (Go.Sort.grow (redrawn W d) os) fun e w''=>e = .returned (fr (q * xb))∧∃ p:Regrown,w''=Go.Sort.grow (redrawn W p.d) p.os):=fun W hW =>
      mulR_regrown W q xb (D + D) D Sq.out Sb.out (by have:=HD.out; omega) (HL.out.below hW)
     unfold fr fv at HM
     clear hcells hcells' y0 y1 K M B W' Sb
     have H0:=Lib.hid (show ((0:Int)≤j∧(j:Int) < k) from ⟨by omega,by omega⟩)
     go_wp2_with fail
     generalize wr.alloc (.cells #[.string (itx xb.num),.string (dec xb.den)] 30)=W0 at *
     clear x0 x1
     obtain ⟨k0,k1,-,-⟩:=two_cells N'.out
     obtain ⟨m0,m1,-,-⟩:=two_cells M'.out
     have q0:=cell_regrown k0
     have q1:=cell_regrown k1
     have q2:=cell_regrown Y0.out
     have q3:=cell_regrown Y1.out
     have q4:=cell_regrown m0
     have q5:=cell_regrown m1
     have hM:=HM.out _ B'.out
     clear k0 k1 HM N' m0 m1
     refine wp_region_quiet_below (by kernel_rfl) (by kernel_rfl) ?_
     repeat (first | go_big_quiet_step (with_reducible exact hM _ _) | quiet_step (with_reducible exact hM _ _))
     refine BigFrame.wpQuiet_want rfl fun K hK=>quiet_neqQ _ _ _ (q * xb) xa rfl rfl rfl (hK _ ?_)
     refine wpQuiet_nil ?_
     intro w2 hw2
     obtain ⟨⟨dq,osq⟩,rfl⟩:=hw2
     have W2:=Lib.hid (below_regrown W0 dq osq)
     have B2:=Lib.hid (B'.out.trans (W2.out.mono B'.out.size))
     have K2:=Lib.hid (heap_kept K'.out W2.out nr_)
     have M2:=Lib.hid (heap_kept M'.out W2.out nr_)
     clear K' M' B' Y0 Y1 W2 hM q0 q1 q2 q3 q4 q5
     generalize Go.Sort.grow (redrawn W0 dq) osq=w2 at *
     by_cases hqx:q * xb=xa
     ·rw [decide_eq_true hqx]
      have Hall':Hid (∀ i,i < j + 1→q * lb.getD i 0=la.getD i 0):=fun i hi=>by
       rcases Nat.lt_or_ge i j with h | h
       ·exact Hall.out i h
       ·rw [show i=j by omega,Hxb.out,Hxa.out]; exact hqx
      clear hqx Hall Hxa Hxb
      go_wp2_with fail
      go_roundw
      case rel=>exact ⟨j + 1,by omega,by go_num,Hall',K2,M2,B2⟩
      case measure=>simp [intOf]; omega
     ·rw [decide_eq_false hqx]
      have HB:Hid (ratioB la lb k q=false):=by
       show _=_
       exact decide_eq_false fun h=>hqx (by rw [← Hxb.out,← Hxa.out]; exact h j hlt)
      clear hqx Hall Hxa Hxb
      obtain ⟨k0,k1,f0,f1⟩:=two_cells K2.out
      obtain ⟨m0,m1,-,-⟩:=two_cells M2.out
      go_wp2_with fail
      obtain ⟨c0,c1,hb3⟩:=two_stored (B:=w.heap.size) (.string (itx q.num)) (.string (dec q.den)) k0 k1 nr_ B2.out
      generalize (w2.setCell ⟨w.heap.size,0,none⟩ (.string (itx q.num))).setCell ⟨w.heap.size,1,none⟩ (.string (dec q.den))=w9 at *
      rw [Hq.out,HB.out]
      exact bodyPost_ret (v := .tuple #[.agg #[.string (itx q.num),.string (dec q.den)],.bool false]) (by simp [results,Tryz.results114,go_sem,c0,c1]) rfl ⟨rfl,hb3⟩
    ·have hlt':¬ (j:Int) < k:=by omega
     have HB:Hid (ratioB la lb k q=true):=by
      show _=_
      exact decide_eq_true fun i hi=>Hall.out i (by omega)
     clear Hall
     obtain ⟨k0,k1,f0,f1⟩:=two_cells K.out
     obtain ⟨m0,m1,-,-⟩:=two_cells M.out
     go_wp2_with fail
     obtain ⟨c0,c1,hb3⟩:=two_stored (B:=w.heap.size) (.string (itx q.num)) (.string (dec q.den)) k0 k1 nr_ B.out
     generalize (wr.setCell ⟨w.heap.size,0,none⟩ (.string (itx q.num))).setCell ⟨w.heap.size,1,none⟩ (.string (dec q.den))=w9 at *
     rw [Hq.out,HB.out]
     exact bodyPost_ret (v := .tuple #[.agg #[.string (itx q.num),.string (dec q.den)],.bool true]) (by simp [results,Tryz.results114,go_sem,c0,c1]) rfl ⟨rfl,hb3⟩
end Go.Proofs.YtlomhfknmhaboaaGreatDoor

namespace Go.Proofs.YtlomhfknmhaboaaGreatDoor
open Go.RowKit
set_option maxRecDepth 100000 in
set_option maxHeartbeats 8000000 in
theorem quotient_pos (w:World) (x1 x2 y1 y2:Option Addr) (e1 e2 g1 g2 d g:Nat) (tx ty:List (Int×Int)) (X:TermsAt w tx x1 x2) (Y:TermsAt w ty y1 y2) (L:Laid w)
  (hx:∀ x∈tx,okT 100000 x) (hy:∀ x∈ty,okT 100000 x) (hd:d≤10000) (hg:g≤10000) (hd0:0 < d) (hg0:0 < g)
  (h1:0≤lowT tx) (h2:lowT tx≤highT tx) (h3:highT tx≤100000000000000) (h4:0 < lowT ty) (h5:lowT ty≤highT ty) (h6:highT ty≤100000000000000) :
  Gives Tryz.prog 116 #[.agg (tcells x1 e1 x2 e2 tx.length d),.agg (tcells y1 g1 y2 g2 ty.length g)] w
   (.tuple #[.int .i64 (lowT tx * g / (highT ty * d)),.bool (decide (lowT tx * g / (highT ty * d)=highT tx * g / (lowT ty * d)))]):=by
 unfold Gives
 have Hnx:Hid (∀ W,Below w.heap.size w W→Gives Tryz.prog 134 #[.agg (tcells x1 e1 x2 e2 tx.length d),.int .i64 100000] W (.tuple #[.int .i64 (lowT tx),.int .i64 (highT tx),.bool true])):=fun W hW=>by
  have:=near_any W x1 x2 e1 e2 d tx 100000 (by decide) (by decide) X.len (X.below hW).r1 (X.below hW).r2 X.p X.z (L.below hW)
  unfold nearV at this
  rw [if_pos hx] at this
  exact this
 have Hny:Hid (∀ W,Below w.heap.size w W→Gives Tryz.prog 134 #[.agg (tcells y1 g1 y2 g2 ty.length g),.int .i64 100000] W (.tuple #[.int .i64 (lowT ty),.int .i64 (highT ty),.bool true])):=fun W hW=>by
  have:=near_any W y1 y2 g1 g2 g ty 100000 (by decide) (by decide) Y.len (Y.below hW).r1 (Y.below hW).r2 Y.p Y.z (L.below hW)
  unfold nearV at this
  rw [if_pos hy] at this
  exact this
 have Hsd:Hid (∀ W,Below w.heap.size w W→Gives Tryz.prog 110 #[.string (dec d)] W (.tuple #[.int .i64 d,.bool true])):=fun W hW=>by
  have:=smallz_any W (d:Int) (num_pow (D:=5) (show (d:Int).natAbs < 10 ^ 5 by omega) (by decide) (by decide)) (L.below hW)
  rw [if_pos (by omega),itx_nat] at this
  exact this
 have Hsg:Hid (∀ W,Below w.heap.size w W→Gives Tryz.prog 110 #[.string (dec g)] W (.tuple #[.int .i64 g,.bool true])):=fun W hW=>by
  have:=smallz_any W (g:Int) (num_pow (D:=5) (show (g:Int).natAbs < 10 ^ 5 by omega) (by decide) (by decide)) (L.below hW)
  rw [if_pos (by omega),itx_nat] at this
  exact this
 clear X Y L hx hy
 generalize lowT tx=xl at *
 generalize highT tx=xh at *
 generalize lowT ty=yl at *
 generalize highT ty=yh at *
 generalize tx.length=n at *
 generalize ty.length=m at *
 have p1:0≤xl * g:=Int.mul_nonneg h1 (by omega)
 have p2:xl * g≤100000000000000 * 10000:=Int.mul_le_mul (by omega) (by omega) (by omega) (by omega)
 have p3:0≤xh * g:=Int.mul_nonneg (by omega) (by omega)
 have p4:xh * g≤100000000000000 * 10000:=Int.mul_le_mul (by omega) (by omega) (by omega) (by omega)
 have p5:0 < yl * d:=Int.mul_pos h4 (by omega)
 have p6:yl * d≤100000000000000 * 10000:=Int.mul_le_mul (by omega) (by omega) (by omega) (by omega)
 have p7:0 < yh * d:=Int.mul_pos (by omega) (by omega)
 have p8:yh * d≤100000000000000 * 10000:=Int.mul_le_mul (by omega) (by omega) (by omega) (by omega)
 have w1:IntKind.i64.wrap (xl * g)=xl * g:=IntWalk.i64_in _ (by omega)
 have w2:IntKind.i64.wrap (xh * g)=xh * g:=IntWalk.i64_in _ (by omega)
 have w3:IntKind.i64.wrap (yl * d)=yl * d:=IntWalk.i64_in _ (by omega)
 have w4:IntKind.i64.wrap (yh * d)=yh * d:=IntWalk.i64_in _ (by omega)
 have D1:Hid (∀ W,Gives Tryz.prog 140 #[.int .i64 (xl * g),.int .i64 (yh * d)] W (.int .i64 (xl * g / (yh * d)))):=fun W=>downward_any W _ _ (by omega) p7 (by omega)
 have D2:Hid (∀ W,Gives Tryz.prog 140 #[.int .i64 (xh * g),.int .i64 (yl * d)] W (.int .i64 (xh * g / (yl * d)))):=fun W=>downward_any W _ _ (by omega) p5 (by omega)
 have n1:¬ yh≤0:=by omega
 have n2:¬ yl≤0:=by omega
 have n3:¬ xl < 0:=by omega
 have n4:¬ xh < 0:=by omega
 have n5:¬ (d:Int) > 10000:=by omega
 have n6:¬ (g:Int) > 10000:=by omega
 clear p1 p2 p3 p4 p5 p6 p7 p8 h2 h3 h5 h6 hd hg hd0 hg0 h1 h4
 generalize hq1:xl * g / (yh * d)=q1 at *
 generalize hq2:xh * g / (yl * d)=q2 at *
 clear hq1 hq2
 have R1:Hid (((w.alloc (.cells (tcells x1 e1 x2 e2 n d) 103)).alloc (.cells (tcells y1 g1 y2 g2 m g) 103)).heap[w.heap.size]?=some (.cells #[.slice x1 n e1,.slice x2 n e2,.string (dec d)] 103 (0,0))):=heap_old (heap_at w _ _ _ rfl) _
 have R2:Hid (((w.alloc (.cells (tcells x1 e1 x2 e2 n d) 103)).alloc (.cells (tcells y1 g1 y2 g2 m g) 103)).heap[w.heap.size + 1]?=some (.cells #[.slice y1 m g1,.slice y2 m g2,.string (dec g)] 103 (0,0))):=heap_at _ _ _ _ (by show (w.heap.push _).size=_; exact Array.size_push ..)
 have B0:Hid (Below w.heap.size w ((w.alloc (.cells (tcells x1 e1 x2 e2 n d) 103)).alloc (.cells (tcells y1 g1 y2 g2 m g) 103))):=by
  show Below _ _ _
  have b1:=(Below.refl w.heap.size w).alloc nr_ (.cells (tcells x1 e1 x2 e2 n d) 103)
  exact b1.alloc b1.size _
 go_enter Tryz.func116,Tryz.ntmps116
 go_wp2_with fail
 generalize (w.alloc (.cells (tcells x1 e1 x2 e2 n d) 103)).alloc (.cells (tcells y1 g1 y2 g2 m g) 103)=W0 at *
 refine Calls.mono (Hnx.out _ B0.out) ?_
 rintro e W1 ⟨rfl,hb⟩
 have B1:=Lib.hid (B0.out.trans (hb.mono B0.out.size))
 have R3:=Lib.hid (heap_kept R1.out hb nr_)
 have R4:=Lib.hid (heap_kept R2.out hb nr_)
 clear hb B0 R1 R2 Hnx
 obtain ⟨k0,k1,k2,-⟩:=obj_cells3 R3.out
 obtain ⟨m0,m1,m2,-⟩:=obj_cells3 R4.out
 go_wp2_with fail
 refine Calls.mono (Hny.out _ B1.out) ?_
 rintro e W2 ⟨rfl,hb⟩
 have B2:=Lib.hid (B1.out.trans (hb.mono B1.out.size))
 have R5:=Lib.hid (heap_kept R3.out hb nr_)
 have R6:=Lib.hid (heap_kept R4.out hb nr_)
 clear hb B1 R3 R4 Hny k0 k1 k2 m0 m1 m2
 obtain ⟨k0,k1,k2,-⟩:=obj_cells3 R5.out
 go_wp2_with fail
 refine Calls.mono (Hsd.out _ B2.out) ?_
 rintro e W3 ⟨rfl,hb⟩
 have B3:=Lib.hid (B2.out.trans (hb.mono B2.out.size))
 have R8:=Lib.hid (heap_kept R6.out hb nr_)
 clear hb B2 R5 R6 Hsd k0 k1 k2
 obtain ⟨m0,m1,m2,-⟩:=obj_cells3 R8.out
 go_wp2_with fail
 refine Calls.mono (Hsg.out _ B3.out) ?_
 rintro e W4 ⟨rfl,hb⟩
 have B4:=Lib.hid (B3.out.trans (hb.mono B3.out.size))
 clear hb B3 R8 Hsg m0 m1 m2
 go_wp2_with fail
 refine Calls.mono (D1.out _) ?_
 rintro e W5 ⟨rfl,hb⟩
 have B5:=Lib.hid (B4.out.trans (hb.mono B4.out.size))
 clear hb B4
 go_wp2_with fail
 refine Calls.mono (D2.out _) ?_
 rintro e W6 ⟨rfl,hb⟩
 have B6:=Lib.hid (B5.out.trans (hb.mono B5.out.size))
 clear hb B5
 go_wp2_with fail
 go_ret2
 exact ⟨rfl,B6.out⟩
end Go.Proofs.YtlomhfknmhaboaaGreatDoor

namespace Go.Proofs.YtlomhfknmhaboaaGreatDoor
open Go.RowKit
set_option maxRecDepth 100000 in
set_option maxHeartbeats 8000000 in
theorem floor_quick (w:World) (ps:List Int) (a0 a1 a2:Option Addr) (c0 c1 c2 D:Nat) (la lb:List Rat) (A:SizeOk w ps a0 a1 la D) (B:SizeOk w ps a0 a2 lb D) (hD0:0 < D) (L:Laid w)
  (hr:ratioB la lb ps.length (ratioK la lb ps.length)=false)
  (hx:∀ x∈tlQ ps la,okT 100000 x) (hy:∀ x∈tlQ ps lb,okT 100000 x) (hd:tden la≤10000) (hg:tden lb≤10000) (hd0:0 < tden la) (hg0:0 < tden lb)
  (h1:0≤lowT (tlQ ps la)) (h2:lowT (tlQ ps la)≤highT (tlQ ps la)) (h3:highT (tlQ ps la)≤100000000000000) (h4:0 < lowT (tlQ ps lb)) (h5:lowT (tlQ ps lb)≤highT (tlQ ps lb)) (h6:highT (tlQ ps lb)≤100000000000000)
  (q:Int) (hq1:lowT (tlQ ps la) * tden lb / (highT (tlQ ps lb) * tden la)=q) (hq2:highT (tlQ ps la) * tden lb / (lowT (tlQ ps lb) * tden la)=q) (hq : -1000000≤q∧q≤1000000) :
  Gives Tryz.prog 75 #[.slice a0 ps.length c0,.slice a1 la.length c1,.slice a2 lb.length c2] w (.string (itx q)):=by
 unfold Gives
 have hn:=A.n
 have hdd:=A.d
 have HL:=Lib.hid L
 have Hra:=Lib.hid (ratio_any w a1 a2 c1 c2 ps.length D la lb A.rl B.rl A.len B.len A.sm B.sm (by omega) hD0 hdd L)
 rw [hr] at Hra
 have Ht1:Hid (∀ W,Below w.heap.size w W→Calls Tryz.prog 66 #[.slice a0 ps.length c0,.slice a1 ps.length c1] W fun e w'=>∃ b1 d1 b2 d2,e = .returned (.agg (tcells b1 d1 b2 d2 (tlQ ps la).length (tden la)))∧TermsAt w' (tlQ ps la) b1 b2∧Below W.heap.size W w'):=fun W hW=>by
  have:=terms_ok (c0:=c0) (c:=c1) (A.below hW) (L.below hW)
  rw [A.len] at this
  exact this
 have Ht2:Hid (∀ W,Below w.heap.size w W→Calls Tryz.prog 66 #[.slice a0 ps.length c0,.slice a2 ps.length c2] W fun e w'=>∃ b1 d1 b2 d2,e = .returned (.agg (tcells b1 d1 b2 d2 (tlQ ps lb).length (tden lb)))∧TermsAt w' (tlQ ps lb) b1 b2∧Below W.heap.size W w'):=fun W hW=>by
  have:=terms_ok (c0:=c0) (c:=c2) (B.below hW) (L.below hW)
  rw [B.len] at this
  exact this
 have Hqu:Hid (∀ W x1 x2 y1 y2 e1 e2 g1 g2,TermsAt W (tlQ ps la) x1 x2→TermsAt W (tlQ ps lb) y1 y2→Laid W→Gives Tryz.prog 116 #[.agg (tcells x1 e1 x2 e2 (tlQ ps la).length (tden la)),.agg (tcells y1 g1 y2 g2 (tlQ ps lb).length (tden lb))] W (.tuple #[.int .i64 q,.bool true])):=fun W x1 x2 y1 y2 e1 e2 g1 g2 X Y LW=>by
  have:=quotient_pos W x1 x2 y1 y2 e1 e2 g1 g2 _ _ _ _ X Y LW hx hy hd hg hd0 hg0 h1 h2 h3 h4 h5 h6
  rw [hq1,hq2,decide_eq_true rfl] at this
  exact this
 have Hof:Hid (∀ W,Below w.heap.size w W→Gives Tryz.prog 97 #[.int .i64 q] W (.string (itx q))):=fun W hW=>ofz_any W q (by omega) (by omega) (L.below hW)
 unfold fr fv at Hra
 rw [A.len,B.len]
 clear A B L hr hx hy hd hg hd0 hg0 h1 h2 h3 h4 h5 h6 hq1 hq2 hq
 generalize ratioK la lb ps.length=k at *
 go_enter Tryz.func75,Tryz.ntmps75
 go_wp2_with fail
 refine Calls.mono Hra.out ?_
 rintro e w1 ⟨rfl,hb⟩
 have B2:=Lib.hid (hb.alloc hb.size (.cells #[.string (itx k.num),.string (dec k.den)] 30))
 clear hb Hra
 go_wp2_with fail
 generalize w1.alloc (.cells #[.string (itx k.num),.string (dec k.den)] 30)=w2 at *
 refine Calls.mono (Ht1.out _ B2.out) ?_
 rintro e w3 ⟨b1,d1,b2,d2,rfl,X,hb⟩
 have B3:=Lib.hid (B2.out.trans (hb.mono B2.out.size))
 have HX:=Lib.hid X
 clear hb Ht1 X B2
 go_wp2_with fail
 refine Calls.mono (Ht2.out _ B3.out) ?_
 rintro e w4 ⟨b3,d3,b4,d4,rfl,Y,hb⟩
 have B4:=Lib.hid (B3.out.trans (hb.mono B3.out.size))
 have HX4:=Lib.hid (HX.out.below hb)
 have HY:=Lib.hid Y
 clear hb Ht2 Y B3 HX
 go_wp2_with fail
 have Hq:=Lib.hid (Hqu.out (((w4.alloc (.cells #[.slice b1 (tlQ ps la).length d1,.slice b2 (tlQ ps la).length d2,.string (dec (tden la))] 103)).alloc (.cells #[.slice b3 (tlQ ps lb).length d3,.slice b4 (tlQ ps lb).length d4,.string (dec (tden lb))] 103))) b1 b2 b3 b4 d1 d2 d3 d4
  (HX4.out.below (((Below.refl w4.heap.size w4).alloc nr_ _).alloc (Nat.le_trans nr_ ((Below.refl w4.heap.size w4).alloc nr_ _).size) _))
  (HY.out.below (((Below.refl w4.heap.size w4).alloc nr_ _).alloc (Nat.le_trans nr_ ((Below.refl w4.heap.size w4).alloc nr_ _).size) _))
  (HL.out.below ((B4.out.alloc B4.out.size _).alloc (B4.out.alloc B4.out.size _).size _)))
 have B5:=Lib.hid ((B4.out.alloc B4.out.size (.cells #[.slice b1 (tlQ ps la).length d1,.slice b2 (tlQ ps la).length d2,.string (dec (tden la))] 103)).alloc (B4.out.alloc B4.out.size (.cells #[.slice b1 (tlQ ps la).length d1,.slice b2 (tlQ ps la).length d2,.string (dec (tden la))] 103)).size (.cells #[.slice b3 (tlQ ps lb).length d3,.slice b4 (tlQ ps lb).length d4,.string (dec (tden lb))] 103))
 refine Calls.mono Hq.out ?_
 rintro e w5 ⟨rfl,hb⟩
 have B6:=Lib.hid (B5.out.trans (hb.mono B5.out.size))
 clear hb Hq B5 B4 HX4 HY
 go_wp2_with fail
 refine Calls.mono (Hof.out _ B6.out) ?_
 rintro e w6 ⟨rfl,hb⟩
 have B7:=Lib.hid (B6.out.trans (hb.mono B6.out.size))
 clear hb Hof
 go_wp2_with fail
 go_ret
 exact ⟨rfl,B7.out⟩
end Go.Proofs.YtlomhfknmhaboaaGreatDoor

namespace Go.Proofs.YtlomhfknmhaboaaGreatDoor
open Go.RowKit
set_option maxRecDepth 100000 in
set_option maxHeartbeats 8000000 in
theorem Floor_of (w:World) (ps:List Int) (a0 a1 a2:Option Addr) (c0 c1 c2:Nat) (la lb:List Rat) (A:SizeOk w ps a0 a1 la 30) (B:SizeOk w ps a0 a2 lb 30) (hp:pcode ps=0) (L:Laid w) (hz:tlQ ps lb≠[]) (q:Int)
  (hf:∀ W,Below w.heap.size w W→Gives Tryz.prog 75 #[.slice a0 ps.length c0,.slice a1 la.length c1,.slice a2 lb.length c2] W (.string (itx q))) :
  Gives Tryz.prog 30 #[.slice a0 ps.length c0,.slice a1 la.length c1,.slice a2 lb.length c2] w (.tuple #[.string (itx q),.int .i64 0]):=by
 unfold Gives
 have Hc:=Lib.hid (checkQuotient_ok w ps a0 a1 a2 c0 c1 c2 la lb A B hp L hz)
 have Hf:=Lib.hid hf
 clear A B hp L hz hf
 go_enter Tryz.func30,Tryz.ntmps30
 go_wp2_with fail
 refine Calls.mono Hc.out ?_
 rintro e w1 ⟨rfl,hb⟩
 have B1:=Lib.hid hb
 clear hb Hc
 go_wp2_with fail
 refine Calls.mono (Hf.out _ B1.out) ?_
 rintro e w2 ⟨rfl,hb⟩
 have B2:=Lib.hid (B1.out.trans (hb.mono B1.out.size))
 clear hb Hf
 go_wp2_with fail
 go_ret2
 exact ⟨rfl,B2.out⟩
theorem Sm.two:Sm 1 2:=⟨by decide,by decide⟩
theorem sum_one (W:World) (g1 g2:Nat) (a1:Option Addr) (c1 n D:Nat) (la:List Rat) (f1:Rat)
  (h1:W.heap[g1]?=some (.cells #[.slice a1 la.length c1] 34 (0,0)))
  (h2:W.heap[g2]?=some (.cells #[.string (itx f1.num),.string (dec f1.den)] 30 (0,0)))
  (ra:Rd W a1 (cellsQ la)) (la1:la.length=n) (sa:∀ q∈la,Sm D q) (s1:Sm 2 f1) (hn:n≤100) (hD:D≤400) (L:Laid W) :
  GivesQ 59 #[.int .i64 n,.slice (some ⟨g1,0,none⟩) 1 1,.slice (some ⟨g2,0,none⟩) 1 1] W (sumQ n [la] [f1]):=by
 have h1':W.heap[g1]?=some (.cells #[.slice a1 (la.map qs).length c1] 34 (0,0)):=by rw [List.length_map]; exact h1
 exact sum_any W _ _ 1 1 n [la] [f1] D 2 (rdl_one h1' ra) (rd_obj h2) (by intro l hl; simp only [List.mem_cons,List.not_mem_nil,or_false] at hl; subst hl; assumption) rfl
  (by intro l hl; simp only [List.mem_cons,List.not_mem_nil,or_false] at hl; subst hl; assumption)
  (by intro q hq; simp only [List.mem_cons,List.not_mem_nil,or_false] at hq; subst hq; assumption) (by omega) (by simp) (by simp only [List.length_cons,List.length_nil]; omega) L
theorem sum_one_sm {n D:Nat} {la:List Rat} {f1:Rat} (sa:∀ q∈la,Sm D q) (s1:Sm 2 f1):∀ q∈sumQ n [la] [f1],Sm (2 * D + 5) q:=by
 have:=sumK_sm n [la] [f1] D 2 (by intro l hl; simp only [List.mem_cons,List.not_mem_nil,or_false] at hl; subst hl; assumption) (by intro q hq; simp only [List.mem_cons,List.not_mem_nil,or_false] at hq; subst hq; assumption) rfl 1 nr_
 intro q hq
 exact (this q (by unfold sumK; unfold sumQ at hq; exact hq)).le (by omega)
theorem sum_one_len {n:Nat} {la:List Rat} {f1:Rat} (h1:la.length=n):(sumQ n [la] [f1]).length=n :=
 sumQ_length n [la] [f1] (by intro l hl; simp only [List.mem_cons,List.not_mem_nil,or_false] at hl; subst hl; assumption) rfl
end Go.Proofs.YtlomhfknmhaboaaGreatDoor

namespace Go.Proofs.YtlomhfknmhaboaaGreatDoor
open Go.RowKit
theorem num2:(2:Rat).num=2:=rfl
theorem den2:(2:Rat).den=1:=rfl
set_option maxRecDepth 100000 in
set_option maxHeartbeats 8000000 in
theorem Round_of (w:World) (ps:List Int) (a0 a1 a2:Option Addr) (c0 c1 c2:Nat) (la lb:List Rat) (A:SizeOk w ps a0 a1 la 30) (B:SizeOk w ps a0 a2 lb 30) (hp:pcode ps=0) (L:Laid w) (hz:tlQ ps lb≠[]) (q:Int)
  (hf:∀ W a3 a4 c3 c4,SizeOk W ps a0 a3 (sumQ ps.length [la,lb] [2,1]) (2 * 30 + 5)→SizeOk W ps a0 a4 (sumQ ps.length [lb] [2]) (2 * 30 + 5)→Laid W →
   Gives Tryz.prog 75 #[.slice a0 ps.length c0,.slice a3 (sumQ ps.length [la,lb] [2,1]).length c3,.slice a4 (sumQ ps.length [lb] [2]).length c4] W (.string (itx q))) :
  Gives Tryz.prog 31 #[.slice a0 ps.length c0,.slice a1 la.length c1,.slice a2 lb.length c2] w (.tuple #[.string (itx q),.int .i64 0]):=by
 unfold Gives
 have Hc:=Lib.hid (checkQuotient_ok w ps a0 a1 a2 c0 c1 c2 la lb A B hp L hz)
 have Hf:=Lib.hid hf
 have HL:=Lib.hid L
 have HA:=Lib.hid A
 have HB:=Lib.hid B
 have Hn:=Lib.hid A.n
 have Hnum1:Hid (∀ W,Below w.heap.size w W→Gives Tryz.prog 65 #[.int .i64 1] W (.agg #[.string (itx 1),.string (dec 1)])):=fun W hW=>number_any W 1 (by decide) (by decide) (HL.out.below hW)
 have Hnum2:Hid (∀ W,Below w.heap.size w W→Gives Tryz.prog 65 #[.int .i64 2] W (.agg #[.string (itx 2),.string (dec 1)])):=fun W hW=>number_any W 2 (by decide) (by decide) (HL.out.below hW)
 clear A B hp L hz hf
 go_enter Tryz.func31,Tryz.ntmps31
 go_wp2_with fail
 refine Calls.mono Hc.out ?_
 rintro e w0 ⟨rfl,hb⟩
 have B0:=Lib.hid hb
 clear hb Hc
 go_wp2_with fail
 have K1:=Lib.hid (heap_at w0 #[.slice a1 la.length c1,.slice a2 lb.length c2] 34 _ rfl)
 have B1:=Lib.hid (B0.out.alloc B0.out.size (.cells #[.slice a1 la.length c1,.slice a2 lb.length c2] 34))
 generalize hw1:w0.alloc (.cells #[.slice a1 la.length c1,.slice a2 lb.length c2] 34)=w1 at *
 clear hw1 B0
 refine Calls.mono (Hnum2.out _ B1.out) ?_
 rintro e w2 ⟨rfl,hb⟩
 have K2:=Lib.hid (heap_kept K1.out hb nr_)
 have B2:=Lib.hid (B1.out.trans (hb.mono B1.out.size))
 clear hb
 go_wp2_with fail
 refine Calls.mono (Hnum1.out _ B2.out) ?_
 rintro e w3 ⟨rfl,hb⟩
 have K3:=Lib.hid (heap_kept K2.out hb nr_)
 have B3:=Lib.hid (B2.out.trans (hb.mono B2.out.size))
 clear hb
 go_wp2_with fail
 have K4:=Lib.hid (heap_old K3.out (.cells #[.string (itx 2),.string (dec 1),.string (itx 1),.string (dec 1)] 30))
 have B4:=Lib.hid (B3.out.alloc B3.out.size (.cells #[.string (itx 2),.string (dec 1),.string (itx 1),.string (dec 1)] 30))
 have M4:=Lib.hid (heap_at w3 #[.string (itx 2),.string (dec 1),.string (itx 1),.string (dec 1)] 30 _ rfl)
 generalize hw4:w3.alloc (.cells #[.string (itx 2),.string (dec 1),.string (itx 1),.string (dec 1)] 30)=w4 at *
 clear hw4
 have Hs:=Lib.hid (sum_pair w4 w0.heap.size w3.heap.size a1 a2 c1 c2 ps.length 30 la lb 2 1 K4.out (by rw [num2,den2]; exact M4.out) (HA.out.below B4.out).rl (HB.out.below B4.out).rl HA.out.len HB.out.len HA.out.sm HB.out.sm Sm.two Sm.one Hn.out (by decide) (HL.out.below B4.out))
 refine Calls.mono Hs.out ?_
 rintro e w5 ⟨a5,c5,rfl,ho,hb⟩
 have Hr5:=Lib.hid ho.rd
 have B5:=Lib.hid (B4.out.trans (hb.mono B4.out.size))
 clear hb ho
 have S5:Hid (SizeOk w5 ps a0 a5 (sumQ ps.length [la,lb] [2,1]) (2 * 30 + 5)) :=
  ⟨(HA.out.below B5.out).rp,Hr5.out,sum_pair_len HA.out.len HB.out.len,Hn.out,HA.out.pr,sum_pair_sm (D:=30) HA.out.sm HB.out.sm Sm.two Sm.one,by decide⟩
 clear Hs Hr5 M4 K4 K3 K2 K1 B1 B2 B3 B4
 go_wp2_with fail
 have K6:=Lib.hid (heap_at w5 #[.slice a2 lb.length c2] 34 _ rfl)
 have B6:=Lib.hid (B5.out.alloc B5.out.size (.cells #[.slice a2 lb.length c2] 34))
 have S6:=Lib.hid (S5.out.below ((Below.refl w5.heap.size w5).alloc nr_ (.cells #[.slice a2 lb.length c2] 34)))
 generalize hw6:w5.alloc (.cells #[.slice a2 lb.length c2] 34)=w6 at *
 clear hw6 B5 S5
 refine Calls.mono (Hnum2.out _ B6.out) ?_
 rintro e w7 ⟨rfl,hb⟩
 have K7:=Lib.hid (heap_kept K6.out hb nr_)
 have B7:=Lib.hid (B6.out.trans (hb.mono B6.out.size))
 have S7:=Lib.hid (S6.out.below hb)
 clear hb S6
 go_wp2_with fail
 have K8:=Lib.hid (heap_old K7.out (.cells #[.string (itx 2),.string (dec 1)] 30))
 have B8:=Lib.hid (B7.out.alloc B7.out.size (.cells #[.string (itx 2),.string (dec 1)] 30))
 have S8:=Lib.hid (S7.out.below ((Below.refl w7.heap.size w7).alloc nr_ (.cells #[.string (itx 2),.string (dec 1)] 30)))
 have M8:=Lib.hid (heap_at w7 #[.string (itx 2),.string (dec 1)] 30 _ rfl)
 generalize hw8:w7.alloc (.cells #[.string (itx 2),.string (dec 1)] 30)=w8 at *
 clear hw8 B7 S7 K7
 have Hs:=Lib.hid (sum_one w8 w5.heap.size w7.heap.size a2 c2 ps.length 30 lb 2 K8.out (by rw [num2,den2]; exact M8.out) (HB.out.below B8.out).rl HB.out.len HB.out.sm (Sm.two.le (by decide)) Hn.out (by decide) (HL.out.below B8.out))
 refine Calls.mono Hs.out ?_
 rintro e w9 ⟨a9,c9,rfl,ho,hb⟩
 have Hr9:=Lib.hid ho.rd
 have B9:=Lib.hid (B8.out.trans (hb.mono B8.out.size))
 have S9:=Lib.hid (S8.out.below hb)
 clear hb ho
 have T9:Hid (SizeOk w9 ps a0 a9 (sumQ ps.length [lb] [2]) (2 * 30 + 5)) :=
  ⟨(HB.out.below B9.out).rp,Hr9.out,sum_one_len HB.out.len,Hn.out,HB.out.pr,sum_one_sm (D:=30) HB.out.sm (Sm.two.le (by decide)),by decide⟩
 have Hff:=Lib.hid (Hf.out w9 a5 a9 c5 c9 S9.out T9.out (HL.out.below B9.out))
 go_wp2_with fail
 refine Calls.mono Hff.out ?_
 rintro e w10 ⟨rfl,hb⟩
 have B10:=Lib.hid (B9.out.trans (hb.mono B9.out.size))
 clear hb
 go_wp2_with fail
 go_ret2
 exact ⟨rfl,B10.out⟩
end Go.Proofs.YtlomhfknmhaboaaGreatDoor

namespace Go.Proofs.YtlomhfknmhaboaaGreatDoor
open Go.RowKit
set_option maxHeartbeats 4000000 in
theorem tooLong (w:World) (a:Rat) (ha:Sm 30 a):Gives Tryz.prog 102 #[fr a] w (.bool false):=by
 unfold Gives
 have h:decide (shortQ a)=true:=decide_eq_true ha
 have Hs:Hid (∀ W,Gives Tryz.prog 103 #[fr a] W (.bool true)):=fun W=>by
  have:=shortR W a
  rw [h] at this
  exact this
 unfold fr fv at Hs ⊢
 clear h
 have B1:=Lib.hid ((Below.refl w.heap.size w).alloc nr_ (.cells #[.string (itx a.num),.string (dec a.den)] 30))
 go_enter Tryz.func102,Tryz.ntmps102
 go_wp2_with fail
 refine Calls.mono (Hs.out _) ?_
 rintro e w1 ⟨rfl,hb⟩
 have B2:=Lib.hid (B1.out.trans (hb.mono B1.out.size))
 clear hb
 go_wp2_with fail
 go_ret
 exact ⟨rfl,B2.out⟩
end Go.Proofs.YtlomhfknmhaboaaGreatDoor

namespace Go.Proofs.YtlomhfknmhaboaaGreatDoor
open Go.RowKit
set_option maxRecDepth 100000 in
set_option maxHeartbeats 4000000 in
theorem index_none (w:World) (a:Option Addr) (c:Nat) (l:List Rat) (hr:Rd w a (cellsQ l)) (hs:∀ q∈l,Sm 30 q) (hl:l.length≤1000) :
  Gives Tryz.prog 130 #[.slice a l.length c,.func (.func 102) #[] #[]] w (.int .i64 (-1)):=by
 unfold Gives
 have Hr:=Lib.hid hr
 have Hs:=Lib.hid hs
 clear hr hs
 generalize hm:l.length=m at *
 have Hm:=Lib.hid hm
 clear hm
 go_enter Tryz.func130,Tryz.ntmps130
 go_wp2_with fail
 go_loopw [8] (fun i wr=>∃ k:Nat,k≤m∧i = .int .i64 k∧Hid (Below w.heap.size w wr)) (fun i _=>m - (intOf i).toNat)
 case atStart=>exact ⟨0,Nat.zero_le _,rfl,Below.refl _ _⟩
 case round =>
  obtain ⟨k,hk,rfl,B⟩:=hrel
  by_cases hlt:k < m
  ·have hlt':(k:Int) < m:=by omega
   have hkb:k < l.length:=by rw [Hm.out]; exact hlt
   obtain ⟨b,off,rfl,hb,hcells⟩:=Hr.out.open (by rw [cellsQ_length,Hm.out]; omega)
   obtain ⟨x0,x1⟩:=cellsS_rd hcells k (by rw [List.length_map]; exact hkb)
   rw [← B.out.cell (p:=⟨b,off + k * 2,none⟩) hb,qs_getD _ k hkb] at x0
   rw [← B.out.cell (p:=⟨b,off + k * 2 + 1,none⟩) hb,qs_getD _ k hkb] at x1
   have Hc:Hid (Gives Tryz.prog 102 #[fr l[k]] wr (.bool false)):=tooLong wr _ (Hs.out _ (List.getElem_mem hkb))
   unfold fr fv at Hc
   generalize l[k]=x at *
   simp only [qs] at x0 x1
   clear hcells
   go_wp2_with fail
   refine Calls.mono Hc.out ?_
   rintro e w1 ⟨rfl,hb1⟩
   have B1:=Lib.hid (B.out.trans (hb1.mono B.out.size))
   clear hb1 Hc B x0 x1
   go_wp2_with fail
   go_roundw
   case rel=>exact ⟨k + 1,by omega,by go_num,B1⟩
   case measure=>simp [intOf]; omega
  ·have hlt':¬ (k:Int) < m:=by omega
   go_wp2_with fail
   go_ret
   exact ⟨rfl,B.out⟩
end Go.Proofs.YtlomhfknmhaboaaGreatDoor

namespace Go.Proofs.YtlomhfknmhaboaaGreatDoor
open Go.RowKit
set_option maxHeartbeats 4000000 in
theorem contains_none (w:World) (a:Option Addr) (c:Nat) (l:List Rat) (hr:Rd w a (cellsQ l)) (hs:∀ q∈l,Sm 30 q) (hl:l.length≤1000) :
  Gives Tryz.prog 101 #[.slice a l.length c,.func (.func 102) #[] #[]] w (.bool false):=by
 unfold Gives
 have Hi:=Lib.hid (index_none w a c l hr hs hl)
 clear hr hs hl
 go_enter Tryz.func101,Tryz.ntmps101
 go_wp2_with fail
 refine Calls.mono Hi.out ?_
 rintro e w1 ⟨rfl,hb⟩
 have B:=Lib.hid hb
 clear hb Hi
 go_wp2_with fail
 go_ret
 exact ⟨rfl,B.out⟩
set_option maxHeartbeats 4000000 in
theorem result_ok (w:World) (a:Option Addr) (c:Nat) (l:List Rat) (hr:Rd w a (cellsQ l)) (hs:∀ q∈l,Sm 30 q) (hl:l.length≤1000) :
  Gives Tryz.prog 58 #[.slice a l.length c] w (.tuple #[.slice a l.length c,.int .i64 0]):=by
 unfold Gives
 have Hi:=Lib.hid (contains_none w a c l hr hs hl)
 clear hr hs hl
 go_enter Tryz.func58,Tryz.ntmps58
 go_wp2_with fail
 refine Calls.mono Hi.out ?_
 rintro e w1 ⟨rfl,hb⟩
 have B:=Lib.hid hb
 clear hb Hi
 go_wp2_with fail
 go_ret2
 exact ⟨rfl,B.out⟩
end Go.Proofs.YtlomhfknmhaboaaGreatDoor

namespace Go.Proofs.YtlomhfknmhaboaaGreatDoor
open Go.RowKit
set_option maxHeartbeats 4000000 in
theorem isRight (w:World) (a:Rat) (ha:Sm 400 a) (L:Laid w):Gives Tryz.prog 57 #[fr a] w (.bool false):=by
 unfold Gives
 have Hs:Hid (∀ W,Below w.heap.size w W→Gives Tryz.prog 14 #[fr a] W (.int .i64 0)):=fun W hW=>checkR W a ha (L.below hW)
 unfold fr fv at Hs ⊢
 have B1:=Lib.hid ((Below.refl w.heap.size w).alloc nr_ (.cells #[.string (itx a.num),.string (dec a.den)] 30))
 clear L
 go_enter Tryz.func57,Tryz.ntmps57
 go_wp2_with fail
 refine Calls.mono (Hs.out _ B1.out) ?_
 rintro e w1 ⟨rfl,hb⟩
 have B2:=Lib.hid (B1.out.trans (hb.mono B1.out.size))
 clear hb
 go_wp2_with fail
 go_ret
 exact ⟨rfl,B2.out⟩
set_option maxRecDepth 100000 in
set_option maxHeartbeats 4000000 in
theorem index_right (w:World) (a:Option Addr) (c:Nat) (l:List Rat) (hr:Rd w a (cellsQ l)) (hs:∀ q∈l,Sm 400 q) (hl:l.length≤1000) (L:Laid w) :
  Gives Tryz.prog 100 #[.slice a l.length c,.func (.func 57) #[] #[]] w (.int .i64 (-1)):=by
 unfold Gives
 have Hr:=Lib.hid hr
 have Hs:=Lib.hid hs
 have HL:=Lib.hid L
 clear hr hs L
 generalize hm:l.length=m at *
 have Hm:=Lib.hid hm
 clear hm
 go_enter Tryz.func100,Tryz.ntmps100
 go_wp2_with fail
 go_loopw [8] (fun i wr=>∃ k:Nat,k≤m∧i = .int .i64 k∧Hid (Below w.heap.size w wr)) (fun i _=>m - (intOf i).toNat)
 case atStart=>exact ⟨0,Nat.zero_le _,rfl,Below.refl _ _⟩
 case round =>
  obtain ⟨k,hk,rfl,B⟩:=hrel
  by_cases hlt:k < m
  ·have hlt':(k:Int) < m:=by omega
   have hkb:k < l.length:=by rw [Hm.out]; exact hlt
   obtain ⟨b,off,rfl,hb,hcells⟩:=Hr.out.open (by rw [cellsQ_length,Hm.out]; omega)
   obtain ⟨x0,x1⟩:=cellsS_rd hcells k (by rw [List.length_map]; exact hkb)
   rw [← B.out.cell (p:=⟨b,off + k * 2,none⟩) hb,qs_getD _ k hkb] at x0
   rw [← B.out.cell (p:=⟨b,off + k * 2 + 1,none⟩) hb,qs_getD _ k hkb] at x1
   have Hc:Hid (Gives Tryz.prog 57 #[fr l[k]] wr (.bool false)):=isRight wr _ (Hs.out _ (List.getElem_mem hkb)) (HL.out.below B.out)
   unfold fr fv at Hc
   generalize l[k]=x at *
   simp only [qs] at x0 x1
   clear hcells
   go_wp2_with fail
   refine Calls.mono Hc.out ?_
   rintro e w1 ⟨rfl,hb1⟩
   have B1:=Lib.hid (B.out.trans (hb1.mono B.out.size))
   clear hb1 Hc B x0 x1
   go_wp2_with fail
   go_roundw
   case rel=>exact ⟨k + 1,by omega,by go_num,B1⟩
   case measure=>simp [intOf]; omega
  ·have hlt':¬ (k:Int) < m:=by omega
   go_wp2_with fail
   go_ret
   exact ⟨rfl,B.out⟩
set_option maxHeartbeats 4000000 in
theorem contains_right (w:World) (a:Option Addr) (c:Nat) (l:List Rat) (hr:Rd w a (cellsQ l)) (hs:∀ q∈l,Sm 400 q) (hl:l.length≤1000) (L:Laid w) :
  Gives Tryz.prog 56 #[.slice a l.length c,.func (.func 57) #[] #[]] w (.bool false):=by
 unfold Gives
 have Hi:=Lib.hid (index_right w a c l hr hs hl L)
 clear hr hs hl L
 go_enter Tryz.func56,Tryz.ntmps56
 go_wp2_with fail
 refine Calls.mono Hi.out ?_
 rintro e w1 ⟨rfl,hb⟩
 have B:=Lib.hid hb
 clear hb Hi
 go_wp2_with fail
 go_ret
 exact ⟨rfl,B.out⟩
end Go.Proofs.YtlomhfknmhaboaaGreatDoor

namespace Go.Proofs.YtlomhfknmhaboaaGreatDoor
open Go.RowKit
theorem lcode_one {ps:List Int} {la:List Rat} (hp:pcode ps=0) (ha:∀ q∈la,Sm 30 q) (h1:la.length=ps.length):lcode ps [la.map qs]=0:=by
 unfold lcode
 rw [if_pos hp,lgo,if_pos (scode_ok ha h1),lgo]
set_option maxRecDepth 100000 in
set_option maxHeartbeats 8000000 in
theorem combine_one (w:World) (ps:List Int) (g1 g2:Nat) (a0 a1:Option Addr) (c0 c1:Nat) (la:List Rat) (f:Rat) (A:SizeOk w ps a0 a1 la 30) (hp:pcode ps=0) (L:Laid w) (hf':Sm 2 f) (hs:∀ q∈sumQ ps.length [la] [f],Sm 30 q)
  (h1:w.heap[g1]?=some (.cells #[.slice a1 la.length c1] 34 (0,0))) (h2:w.heap[g2]?=some (.cells #[.string (itx f.num),.string (dec f.den)] 30 (0,0))) :
  Calls Tryz.prog 16 #[.slice a0 ps.length c0,.slice (some ⟨g1,0,none⟩) 1 1,.slice (some ⟨g2,0,none⟩) 1 1] w fun e w'=>∃ a c,e = .returned (.tuple #[.slice a (sumQ ps.length [la] [f]).length c,.int .i64 0])∧Rd w' a (cellsQ (sumQ ps.length [la] [f]))∧Below w.heap.size w w':=by
 have HA:=Lib.hid A
 have HL:=Lib.hid L
 have Hs:=Lib.hid hs
 have H1:=Lib.hid h1
 have H2:=Lib.hid h2
 have Hf:=Lib.hid hf'
 have hn:=A.n
 have e1:=A.len
 have h1':w.heap[g1]?=some (.cells #[.slice a1 (la.map qs).length c1] 34 (0,0)):=by rw [List.length_map]; exact h1
 have hk:=checkAll_any w a0 _ c0 1 ps [la.map qs] A.rp A.i64 (by omega) (rdl_one h1' A.rl) (by simp)
  (by
   intro l hl
   simp only [List.mem_cons,List.not_mem_nil,or_false] at hl
   subst hl
   exact ⟨by rw [List.length_map]; omega,ssz_ok A.sm⟩) L
 rw [lcode_one hp A.sm e1] at hk
 have Hk:=Lib.hid hk
 have Hn:=Lib.hid hn
 clear A L hs h1 h2 hf' h1' hk e1 hp hn
 go_enter Tryz.func16,Tryz.ntmps16
 go_wp2_with fail
 refine Calls.mono Hk.out ?_
 rintro e w1 ⟨rfl,hb⟩
 have B1:=Lib.hid hb
 clear hb Hk
 go_wp2_with fail
 have Hc:=Lib.hid (contains_right w1 (some ⟨g2,0,none⟩) 1 [f] ((rd_obj H2.out).below B1.out nr_) (by intro q hq; simp only [List.mem_cons,List.not_mem_nil,or_false] at hq; subst hq; exact Hf.out.le (by decide)) (by simp) (HL.out.below B1.out))
 refine Calls.mono Hc.out ?_
 rintro e w2 ⟨rfl,hb⟩
 have B2:=Lib.hid (B1.out.trans (hb.mono B1.out.size))
 clear hb Hc B1
 go_wp2_with fail
 have Hsu:=Lib.hid (sum_one w2 g1 g2 a1 c1 ps.length 30 la f (heap_kept H1.out B2.out nr_) (heap_kept H2.out B2.out nr_) (HA.out.below B2.out).rl HA.out.len HA.out.sm Hf.out Hn.out (by decide) (HL.out.below B2.out))
 refine Calls.mono Hsu.out ?_
 rintro e w3 ⟨a3,c3,rfl,ho,hb⟩
 have Hr:=Lib.hid ho.rd
 have B3:=Lib.hid (B2.out.trans (hb.mono B2.out.size))
 clear hb ho Hsu B2
 have Hre:=Lib.hid (result_ok w3 a3 c3 _ Hr.out Hs.out (by rw [sum_one_len HA.out.len]; have:=Hn.out; omega))
 go_wp2_with fail
 refine Calls.mono Hre.out ?_
 rintro e w4 ⟨rfl,hb⟩
 have B4:=Lib.hid (B3.out.trans (hb.mono B3.out.size))
 have Hr4:=Lib.hid (Hr.out.below hb nr_)
 clear hb Hre
 go_wp2_with fail
 go_ret2
 exact ⟨a3,c3,rfl,Hr4.out,B4.out⟩
end Go.Proofs.YtlomhfknmhaboaaGreatDoor

namespace Go.Proofs.YtlomhfknmhaboaaGreatDoor
open Go.RowKit
set_option maxRecDepth 100000 in
set_option maxHeartbeats 8000000 in
theorem scale_ok (w:World) (ps:List Int) (a0 a1:Option Addr) (c0 c1:Nat) (la:List Rat) (f:Rat) (A:SizeOk w ps a0 a1 la 30) (hp:pcode ps=0) (L:Laid w) (hf':Sm 2 f) (hs:∀ q∈sumQ ps.length [la] [f],Sm 30 q) :
  Calls Tryz.prog 23 #[.slice a0 ps.length c0,.slice a1 la.length c1,fr f] w fun e w'=>∃ a c,e = .returned (.tuple #[.slice a (sumQ ps.length [la] [f]).length c,.int .i64 0])∧Rd w' a (cellsQ (sumQ ps.length [la] [f]))∧Below w.heap.size w w':=by
 have Hc:Hid (∀ W g1 g2,Below w.heap.size w W→W.heap[g1]?=some (.cells #[.slice a1 la.length c1] 34 (0,0))→W.heap[g2]?=some (.cells #[.string (itx f.num),.string (dec f.den)] 30 (0,0)) →
   Calls Tryz.prog 16 #[.slice a0 ps.length c0,.slice (some ⟨g1,0,none⟩) 1 1,.slice (some ⟨g2,0,none⟩) 1 1] W fun e w'=>∃ a c,e = .returned (.tuple #[.slice a (sumQ ps.length [la] [f]).length c,.int .i64 0])∧Rd w' a (cellsQ (sumQ ps.length [la] [f]))∧Below W.heap.size W w'):=fun W g1 g2 hW h1 h2 =>
  combine_one W ps g1 g2 a0 a1 c0 c1 la f (A.below hW) hp (L.below hW) hf' hs h1 h2
 have B0:=Lib.hid ((Below.refl w.heap.size w).alloc nr_ (.cells #[.string (itx f.num),.string (dec f.den)] 30))
 clear A hp L hf' hs
 unfold fr fv
 go_enter Tryz.func23,Tryz.ntmps23
 have N0:=Lib.hid (heap_at w #[.string (itx f.num),.string (dec f.den)] 30 _ rfl)
 obtain ⟨k0,k1,-,-⟩:=two_cells N0.out
 go_wp2_with fail
 have B1:=Lib.hid (B0.out.alloc B0.out.size (.cells #[.slice a1 la.length c1] 34))
 have B2:=Lib.hid (B1.out.alloc B1.out.size (.cells #[.string (itx f.num),.string (dec f.den)] 30))
 have z1:(w.alloc (.cells #[.string (itx f.num),.string (dec f.den)] 30)).heap.size=w.heap.size + 1:=by show (w.heap.push _).size=_; exact Array.size_push ..
 have z2:((w.alloc (.cells #[.string (itx f.num),.string (dec f.den)] 30)).alloc (.cells #[.slice a1 la.length c1] 34)).heap.size=w.heap.size + 1 + 1:=by rw [← z1]; show ((w.alloc _).heap.push _).size=_; exact Array.size_push ..
 refine Calls.mono (Hc.out _ _ _ B2.out (heap_old (heap_at _ _ _ _ z1) _) (heap_at _ _ _ _ z2)) ?_
 rintro e w5 ⟨a5,c5,rfl,hr,hb⟩
 have Hr:=Lib.hid hr
 have B3:=Lib.hid (B2.out.trans (hb.mono B2.out.size))
 clear hr hb z1 z2 Hc
 go_wp2_with fail
 go_ret2
 exact ⟨a5,c5,rfl,Hr.out,B3.out⟩
end Go.Proofs.YtlomhfknmhaboaaGreatDoor

namespace Go.Proofs.YtlomhfknmhaboaaGreatDoor
open Go.RowKit
set_option maxRecDepth 100000 in
set_option maxHeartbeats 8000000 in
theorem part_of (w:World) (n d:Int) (v:Rat) (hof:∀ W,Below w.heap.size w W→Gives Tryz.prog 61 #[.int .i64 n,.int .i64 d] W (.tuple #[fr v,.int .i64 0])) :
  Gives Tryz.prog 18 #[.int .i64 n,.int .i64 d] w (fr v):=by
 unfold Gives
 have Hof:=Lib.hid hof
 clear hof
 unfold fr fv at Hof ⊢
 have B0:=Lib.hid ((Below.refl w.heap.size w).alloc nr_ (.cells #[.string ⟨#[]⟩,.string ⟨#[]⟩] 30))
 have K0:=Lib.hid (heap_at w #[.string ⟨#[]⟩,.string ⟨#[]⟩] 30 _ rfl)
 go_enter Tryz.func18,Tryz.ntmps18
 go_wp2_with fail
 refine Calls.mono (Hof.out _ B0.out) ?_
 rintro e w1 ⟨rfl,hb⟩
 have B1:=Lib.hid (B0.out.trans (hb.mono B0.out.size))
 have K1:=Lib.hid (heap_kept K0.out hb nr_)
 clear hb B0 K0 Hof
 have B2:=Lib.hid (B1.out.alloc B1.out.size (.cells #[.string (itx v.num),.string (dec v.den)] 30))
 have K2:=Lib.hid (heap_old K1.out (.cells #[.string (itx v.num),.string (dec v.den)] 30))
 have M2:=Lib.hid (heap_at w1 #[.string (itx v.num),.string (dec v.den)] 30 _ rfl)
 obtain ⟨k0,k1,f0,f1⟩:=two_cells K2.out
 obtain ⟨m0,m1,-,-⟩:=two_cells M2.out
 go_wp2_with fail
 obtain ⟨c0,c1,hb3⟩:=two_stored (B:=w.heap.size) (.string (itx v.num)) (.string (dec v.den)) k0 k1 nr_ B2.out
 exact bodyPost_ret (v := .agg #[.string (itx v.num),.string (dec v.den)]) (by simp [results,Tryz.results18,go_sem,c0,c1]) rfl ⟨rfl,hb3⟩
end Go.Proofs.YtlomhfknmhaboaaGreatDoor

namespace Go.Proofs.YtlomhfknmhaboaaGreatDoor
open Go.RowKit
def txQ (q:Rat):ByteArray:=if q.den=1 then itx q.num else itx q.num ++ ⟨#[47]⟩ ++ dec q.den
def txP (p:Int) (q:Rat):ByteArray :=
 if q=1 then itx p else if q.den=1∧0 < q.num then itx p ++ (⟨#[94]⟩ ++ txQ q) else itx p ++ (⟨#[94,40]⟩ ++ txQ q ++ ⟨#[41]⟩)
def txL (ps:List Int) (l:List Rat):List ByteArray:=(ps.zip l).filterMap fun x=>if x.2.num=0 then none else some (txP x.1 x.2)
def txS (ps:List Int) (l:List Rat):ByteArray :=
 if (txL ps l).length=0 then ⟨#[49]⟩ else ⟨(Lib.join ((txL ps l).map (·.data.toList)) [32]).toArray⟩
theorem txL_succ (ps:List Int) (l:List Rat) (k:Nat) (h1:k < ps.length) (h2:k < l.length) :
  txL (ps.take (k + 1)) (l.take (k + 1))=txL (ps.take k) (l.take k) ++ (if l[k].num=0 then [] else [txP ps[k] l[k]]):=by
 unfold txL
 have e:∀ n,(ps.take n).zip (l.take n)=(ps.zip l).take n:=fun n=>(List.take_zipWith ..).symm
 rw [e,e,List.take_add_one,List.getElem?_eq_getElem (by rw [List.length_zip]; omega),List.filterMap_append]
 congr 1
 rw [List.getElem_zip]
 by_cases h:l[k].num=0
 ·rw [if_pos h]
  show List.filterMap _ [(ps[k],l[k])]=[]
  rw [List.filterMap_cons]
  rw [if_pos h]; rfl
 ·rw [if_neg h]
  show List.filterMap _ [(ps[k],l[k])]=_
  rw [List.filterMap_cons]
  rw [if_neg h]; rfl
theorem txL_length (ps:List Int) (l:List Rat):(txL ps l).length≤l.length:=by
 unfold txL
 refine Nat.le_trans (List.length_filterMap_le _ _) ?_
 rw [List.length_zip]; omega
end Go.Proofs.YtlomhfknmhaboaaGreatDoor

namespace Go.Proofs.YtlomhfknmhaboaaGreatDoor
open Go.RowKit Go.Shelf
def laysJ_ren:Go.Shelf.Ren:=⟨fun | 156=>91 | 165=>124 | 166=>125 | 169=>126 | 240=>148 | 241=>149 | 276=>173 | 277=>174 | n=>n,fun | 0=>0 | 3=>3 | 4=>4 | 5=>5 | 9=>9 | 20=>20 | 31=>127 | 37=>142 | 70=>155 | 72=>157 | 75=>160 | 76=>161 | 80=>163 | 127=>185 | 164=>206 | n=>n,fun n=>n⟩
theorem laysJ:Go.Proofs.Lays.n156 Tryz.prog laysJ_ren:={
 mixed:=by kernel_rfl
 f156:=Tryz.func91.trans (congrArg some (by kernel_rfl))
 f165:=Tryz.func124.trans (congrArg some (by kernel_rfl))
 f166:=Tryz.func125.trans (congrArg some (by kernel_rfl))
 f169:=Tryz.func126.trans (congrArg some (by kernel_rfl))
 f240:=Tryz.func148.trans (congrArg some (by kernel_rfl))
 f241:=Tryz.func149.trans (congrArg some (by kernel_rfl))
 f276:=Tryz.func173.trans (congrArg some (by kernel_rfl))
 f277:=Tryz.func174.trans (congrArg some (by kernel_rfl))
 t0:=Tryz.underlying0
 a0:=Tryz.isAgg0
 z0:=Tryz.sizeOf0
 v0:=Tryz.zeroValue0
 t3:=Tryz.underlying3
 a3:=Tryz.isAgg3
 z3:=Tryz.sizeOf3
 v3:=Tryz.zeroValue3
 t4:=Tryz.underlying4
 a4:=Tryz.isAgg4
 z4:=Tryz.sizeOf4
 v4:=Tryz.zeroValue4
 t9:=Tryz.underlying9
 a9:=Tryz.isAgg9
 z9:=Tryz.sizeOf9
 v9:=Tryz.zeroValue9
 t20:=Tryz.underlying20
 a20:=Tryz.isAgg20
 z20:=Tryz.sizeOf20
 v20:=Tryz.zeroValue20
 t31:=Tryz.underlying127
 a31:=Tryz.isAgg127
 z31:=Tryz.sizeOf127
 v31:=Tryz.zeroValue127
 t37:=Tryz.underlying142
 a37:=Tryz.isAgg142
 z37:=Tryz.sizeOf142
 v37:=Tryz.zeroValue142
 t70:=Tryz.underlying155
 a70:=Tryz.isAgg155
 z70:=Tryz.sizeOf155
 v70:=Tryz.zeroValue155
 t72:=Tryz.underlying157
 a72:=Tryz.isAgg157
 z72:=Tryz.sizeOf157
 v72:=Tryz.zeroValue157
 t75:=Tryz.underlying160
 a75:=Tryz.isAgg160
 z75:=Tryz.sizeOf160
 v75:=Tryz.zeroValue160
 t76:=Tryz.underlying161
 a76:=Tryz.isAgg161
 z76:=Tryz.sizeOf161
 v76:=Tryz.zeroValue161
 t127:=Tryz.underlying185
 a127:=Tryz.isAgg185
 z127:=Tryz.sizeOf185
 v127:=Tryz.zeroValue185
 t164:=Tryz.underlying206
 a164:=Tryz.isAgg206
 z164:=Tryz.sizeOf206
 v164:=Tryz.zeroValue206 }
theorem extraJ:Go.Proofs.Builder.Extra Tryz.prog laysJ_ren:={
 sizeBuilder:=by kernel_rfl
 liesBuilder:=by kernel_rfl
 t5:=Tryz.underlying5
 a5:=Tryz.isAgg5
 z5:=Tryz.sizeOf5
 v5:=Tryz.zeroValue5
 infoByte:=by kernel_rfl
 cellsByte:=by kernel_rfl
 sizeByte:=by kernel_rfl
 neB5:=by decide }
end Go.Proofs.YtlomhfknmhaboaaGreatDoor

namespace Go.Proofs.YtlomhfknmhaboaaGreatDoor
open Go.RowKit
theorem infoStr:(Tryz.prog.info? 9).map (fun i=>(i.zero,i.size,i.bytes))=some (some (.string ⟨#[]⟩),1,16):=by kernel_rfl
theorem elStr:ElemOf Tryz.prog 127 9 (.string ⟨#[]⟩) 1 16:=⟨Tryz.underlying127,info_parts infoStr,rfl,by decide⟩
theorem quiet_eqlQ {C:World→Prop} {K:Act→Prop} {a:Act} {o:Oper} (x y:Operand) (r:TypeId) (p q:Rat) (h:o.op = .binOp .eql 30 x y r) (hx:a.eval x = .agg #[.string (itx p.num),.string (dec p.den)]) (hy:a.eval y = .agg #[.string (itx q.num),.string (dec q.den)])
  (hk:K (a.put o.dst (.bool (decide (p=q))))):o.quiet Tryz.prog a C K :=
 ⟨_,fun w _=>by
  unfold Oper.quietAt execOp
  rw [h]
  simp only [Sem.run_bind,hx,hy,guardQ_run,eqlQ_run,Result.andThen_ok,Sem.run_pure,qs_beq]
  exact ⟨rfl,rfl⟩,hk⟩
theorem numberR_regrown (w:World) (z:Int) (q1 : -9223372036854775808≤z) (q2:z≤9223372036854775807) (L:Laid w) :
  ∀ d os,Calls Tryz.prog 65 #[.int .i64 z] (Go.Sort.grow (redrawn w d) os) fun e w''=>e = .returned (fr (z:Rat))∧∃ p:Regrown,w''=Go.Sort.grow (redrawn w p.d) p.os:=fun d os =>
 Calls.regrown_of (numberR _ z q1 q2 (L.below (below_regrown w d os)))
theorem join_le (xs:List ByteArray) (sep:List UInt8) (B:Nat) (h:∀ x∈xs,x.size≤B):(Lib.join (xs.map (·.data.toList)) sep).length≤xs.length * (B + sep.length):=by
 have hl:∀ ys:List ByteArray,(∀ x∈ys,x.size≤B)→Lib.lens (ys.map (·.data.toList))≤ys.length * B:=by
  intro ys
  induction ys with
  | nil=>intro _; simp [Lib.lens]
  | cons y ys ih =>
   intro hy
   have h1:=ih fun x hx=>hy x (List.mem_cons_of_mem _ hx)
   have h2:y.data.toList.length≤B:=hy y List.mem_cons_self
   have e:Lib.lens ((y :: ys).map (·.data.toList))=y.data.toList.length + Lib.lens (ys.map (·.data.toList)):=by simp [Lib.lens]
   rw [e,List.length_cons,Nat.add_mul]
   omega
 cases xs with
 | nil=>simp [Lib.join_nil]
 | cons x r =>
  have h1:=hl (x :: r) h
  rw [List.map_cons] at h1
  rw [List.map_cons,Lib.join_length,List.length_map,List.length_cons,Nat.mul_add,Nat.add_mul r.length 1 sep.length,Nat.mul_comm r.length]
  rw [List.length_cons] at h1
  omega
theorem txQ_size0 {q:Rat} (h2:Sm 30 q):(txQ q).size≤62:=by
 have c2:=itx_size q.num 30 (by decide) h2.1
 have c3:=(size_lt q.den 30 (by decide)).2 h2.2
 unfold txQ
 split
 ·omega
 ·rw [ByteArray.size_append,ByteArray.size_append]
  have:(ByteArray.mk #[47]).size=1:=rfl
  omega
theorem txQ_size {q:Rat} (h2:Sm 30 q):(txQ q).size≤100:=Nat.le_trans (txQ_size0 h2) (by decide)
theorem txL_size {ps:List Int} {l:List Rat} (hp:∀ p∈ps,2≤p∧p≤97) (hl:∀ q∈l,Sm 30 q):∀ s∈txL ps l,s.size≤100:=by
 intro s hs
 unfold txL at hs
 obtain ⟨⟨p,q⟩,hx,he⟩:=List.mem_filterMap.1 hs
 have h1:=hp p (List.of_mem_zip hx).1
 have h2:=hl q (List.of_mem_zip hx).2
 have c1:=itx_size p 2 (by decide) (by omega)
 have c2:=itx_size q.num 30 (by decide) h2.1
 have c3:=(size_lt q.den 30 (by decide)).2 h2.2
 have c4:=txQ_size0 h2
 have e1:(ByteArray.mk #[94]).size=1:=rfl
 have e2:(ByteArray.mk #[94,40]).size=2:=rfl
 have e3:(ByteArray.mk #[41]).size=1:=rfl
 simp only at he
 split at he
 ·cases he
 ·injection he with he
  subst he
  unfold txP
  split
  ·omega
  ·split
   ·rw [ByteArray.size_append,ByteArray.size_append]; omega
   ·rw [ByteArray.size_append,ByteArray.size_append,ByteArray.size_append]; omega
theorem itoa_any (w:World) (z:Int) (h0 : -9223372036854775808≤z) (h1:z≤9223372036854775807) (L:Laid w):Gives Tryz.prog 89 #[.int .i64 z] w (.string (itx z)):=by
 refine (Tryz.strconv_Itoa z h0 h1 w L.tab).mono ?_
 rintro e w1 ⟨rfl,hw⟩
 exact ⟨rfl,below_of_grow hw⟩
set_option maxRecDepth 100000 in
set_option maxHeartbeats 16000000 in
theorem text_ok (w:World) (ps:List Int) (a0 a1:Option Addr) (c0 c1:Nat) (l:List Rat) (A:SizeOk w ps a0 a1 l 30) (hp:pcode ps=0) (hps:ps.length≤100) (L:Laid w) :
  Gives Tryz.prog 45 #[.slice a0 ps.length c0,.slice a1 l.length c1] w (.tuple #[.string (txS ps l),.int .i64 0]):=by
 unfold Gives
 have HA:=Lib.hid A
 have HL:=Lib.hid L
 have hc:ccode ps (l.map qs)=0:=by unfold ccode; rw [if_pos hp,scode_ok A.sm A.len]
 have hk:=sizeCheck_any w a0 a1 c0 c1 ps (l.map qs) A.rp A.i64 (by omega) A.rl (by rw [List.length_map,A.len]; omega) (ssz_ok A.sm) L
 rw [hc,List.length_map,A.len] at hk
 rw [A.len]
 have Hk:=Lib.hid hk
 have Hpl:Hid (l.length=ps.length):=A.len
 have Hrp:=Lib.hid A.rp
 have Hrl:=Lib.hid A.rl
 have Hv:Hid (txS ps l=if (txL ps l).length=0 then ⟨#[49]⟩ else ⟨(Lib.join ((txL ps l).map (·.data.toList)) [32]).toArray⟩):=Lib.hid rfl
 generalize txS ps l=vv at *
 clear A L hc hk hp
 generalize hn:ps.length=n at *
 have Hn:=Lib.hid hn
 clear hn
 go_enter Tryz.func45,Tryz.ntmps45
 go_wp2_with fail
 refine Calls.mono Hk.out ?_
 rintro e w1 ⟨rfl,hb⟩
 have B1:=Lib.hid hb
 clear hb Hk
 go_wp2_with fail
 go_loopw [7,19] (fun o i wr=>∃ (k:Nat) (b:Option Addr) (d:Nat),k≤n∧i = .int .i64 k∧o = .slice b (txL (ps.take k) (l.take k)).length d∧Hid (wr.ownsRow w.heap.size 9 1 (.slice b (txL (ps.take k) (l.take k)).length d) (txL (ps.take k) (l.take k)).length (strs (txL (ps.take k) (l.take k))))∧Hid (Below w.heap.size w wr)) (fun _ i _=>n - (intOf i).toNat)
 case atStart=>exact ⟨0,none,0,Nat.zero_le _,rfl,rfl,World.ownsRow_nil ..,B1⟩
 case round =>
  clear B1
  obtain ⟨k,b,d,hk,rfl,rfl,OWN,B⟩:=hrel
  by_cases hlt:k < n
  ·have hlt':(k:Int) < n:=by omega
   have hkp:k < ps.length:=by rw [Hn.out]; exact hlt
   have hkl:k < l.length:=by rw [Hpl.out]; exact hlt
   obtain ⟨bb,off,rfl,hb,hcells⟩:=Hrl.out.open (by rw [cellsQ_length]; omega)
   obtain ⟨x0,x1⟩:=cellsS_rd hcells k (by rw [List.length_map]; exact hkl)
   rw [← B.out.cell (p:=⟨bb,off + k * 2,none⟩) hb,qs_getD _ k hkl] at x0
   rw [← B.out.cell (p:=⟨bb,off + k * 2 + 1,none⟩) hb,qs_getD _ k hkl] at x1
   obtain ⟨bp,op,rfl,hbp,hcp⟩:=Hrp.out.open (by rw [ints_length]; omega)
   have Hcp:Hid (w.cell? ⟨bp,op + k,none⟩=some (.int .i64 ps[k])):=hcp k _ (ints_get ps k hkp)
   have Hsucc:=Lib.hid (txL_succ ps l k hkp hkl)
   have hsm:=HA.out.sm _ (List.getElem_mem hkl)
   have hpr:=HA.out.pr _ (List.getElem_mem hkp)
   have Hit:Hid (∀ W,Below w.heap.size w W→Gives Tryz.prog 89 #[.int .i64 ps[k]] W (.string (itx ps[k]))):=fun W hW=>itoa_any W _ (by omega) (by omega) (HL.out.below hW)
   have Htx:Hid (∀ W:World,Gives Tryz.prog 90 #[fr l[k]] W (.string (txQ l[k]))):=fun W=>textR W l[k] (hsm.le (by decide))
   have Hnum:Hid (∀ W,Below w.heap.size w W→∀ d os,Calls Tryz.prog 65 #[.int .i64 1] (Go.Sort.grow (redrawn W d) os) fun e w''=>e = .returned (fr (1:Rat))∧∃ p:Regrown,w''=Go.Sort.grow (redrawn W p.d) p.os):=fun W hW=>numberR_regrown W 1 (by decide) (by decide) (HL.out.below hW)
   have Hsg:Hid (∀ W:World,Gives Tryz.prog 54 #[.string (itx l[k].num)] W (.int .i64 l[k].num.sign)):=fun W=>sign_any W _
   have hz:=itx_isz l[k].num
   have ho:=is_one l[k].den
   have hs1:(itx ps[k]).size≤100:=by have:=itx_size ps[k] 2 (by decide) (by omega); omega
   have hs2:(txQ l[k]).size≤100:=txQ_size hsm
   clear hcells hcp hsm
   generalize hq:l[k]=q at *
   generalize ps[k]=p at *
   unfold txP at Hsucc
   unfold fr fv at Htx Hnum
   clear hq
   simp only [qs] at x0 x1
   generalize txQ q=tx at *
   have B0:=Lib.hid (B.out.alloc B.out.size (.cells #[.string (itx q.num),.string (dec q.den)] 30))
   have Hwr:=Lib.hid ((Below.refl wr.heap.size wr).alloc nr_ (.cells #[.string (itx q.num),.string (dec q.den)] 30))
   have N0:=Lib.hid (heap_at wr #[.string (itx q.num),.string (dec q.den)] 30 _ rfl)
   have OWN0:=Lib.hid (own_below OWN.out Hwr.out nr_)
   have Hcp0:=(B0.out.cell (p:=⟨bp,op + k,none⟩) hbp).trans Hcp.out
   have H0:=Lib.hid (show ((0:Int)≤k∧(k:Int) < n) from ⟨by omega,hlt'⟩)
   go_wp2_with fail
   generalize wr.alloc (.cells #[.string (itx q.num),.string (dec q.den)] 30)=W0 at *
   clear x0 x1 OWN B Hwr
   refine Calls.mono (Hit.out _ B0.out) ?_
   rintro e w2 ⟨rfl,hb2⟩
   have B2:=Lib.hid (B0.out.trans (hb2.mono B0.out.size))
   have N2:=Lib.hid (heap_kept N0.out hb2 nr_)
   have OWN2:=Lib.hid (own_below OWN0.out hb2 nr_)
   clear hb2 Hit N0 OWN0 B0 Hcp0
   obtain ⟨k0,k1,-,-⟩:=two_cells N2.out
   by_cases hq0:q.num=0
   ·rw [decide_eq_true hq0] at hz
    rw [if_pos hq0,List.append_nil] at Hsucc
    clear hq0
    go_wp2_with fail
    go_roundw
    case rel=>exact ⟨k + 1,b,d,by omega,by go_num,by rw [Hsucc.out],by rw [Hsucc.out]; exact OWN2,B2⟩
    case measure=>simp [intOf]; omega
   ·rw [decide_eq_false hq0] at hz
    rw [if_neg hq0] at Hsucc
    clear hq0
    have q0:=cell_regrown k0
    have q1:=cell_regrown k1
    have hN:=Hnum.out _ B2.out
    go_wp2_with fail
    clear k0 k1 Hnum
    refine wp_region_quiet_below (by kernel_rfl) (by kernel_rfl) ?_
    repeat (first | go_big_quiet_step (with_reducible exact hN _ _) | quiet_step (with_reducible exact hN _ _))
    refine BigFrame.wpQuiet_want rfl fun K hK=>quiet_eqlQ _ _ _ q 1 rfl rfl rfl (hK _ ?_)
    repeat (first | go_big_quiet_step (with_reducible exact hN _ _) | quiet_step (with_reducible exact hN _ _))
    refine wpQuiet_nil ?_
    intro w3 hw3
    obtain ⟨⟨dq,osq⟩,rfl⟩:=hw3
    have W3:=Lib.hid (below_regrown w2 dq osq)
    have B3:=Lib.hid (B2.out.trans (W3.out.mono B2.out.size))
    have N3:=Lib.hid (heap_kept N2.out W3.out nr_)
    have OWN3:=Lib.hid (own_below OWN2.out W3.out nr_)
    clear W3 hN q0 q1 N2 OWN2 B2
    generalize Go.Sort.grow (redrawn w2 dq) osq=w3 at *
    obtain ⟨k0,k1,-,-⟩:=two_cells N3.out
    by_cases hq1:q=1
    ·rw [decide_eq_true hq1]
     rw [if_pos hq1] at Hsucc
     clear hq1
     have Hlen:=Lib.hid (txL_length (ps.take k) (l.take k))
     have hLk:(txL (ps.take k) (l.take k)).length≤k:=by have:=Hlen.out; rw [List.length_take] at this; omega
     go_wp2_with (at_builtin; refine wpList_append_one rfl (.tmp 58) (.tmp 60) 127 rfl elStr _ (.string _) rfl rfl OWN3.out B3.out.size rfl (by omega) (by omega) ?_)
     intro v' w9 hown9 hg9 hat9
     have Hb9:Hid (Below w.heap.size w w9):=(B3.out.alloc B3.out.size _).grown hg9 (by simp; have:=B3.out.size; omega) (fun k hk=>(OWN3.out.lt k hk).1)
     obtain ⟨b9,d9,rfl⟩:=own_form hown9
     have Hown9:=Lib.hid hown9
     clear hown9 hg9 hat9
     go_wp2_with fail
     go_roundw
     case rel =>
      refine ⟨k + 1,b9,d9,by omega,by go_num,?_,?_,Hb9⟩
      ·rw [Hsucc.out,List.length_append]; rfl
      ·show World.ownsRow ..
       rw [Hsucc.out,strs_append,List.length_append]
       exact Hown9.out
     case measure=>simp [intOf]; omega
    ·rw [decide_eq_false hq1]
     rw [if_neg hq1] at Hsucc
     clear hq1
     by_cases hd:q.den=1
     ·rw [decide_eq_true hd] at ho
      have Hd:=Lib.hid hd
      clear hd
      go_wp2_with fail
      refine Calls.mono (Hsg.out _) ?_
      rintro e w4 ⟨rfl,hb4⟩
      have B4:=Lib.hid (B3.out.trans (hb4.mono B3.out.size))
      have N4:=Lib.hid (heap_kept N3.out hb4 nr_)
      have OWN4:=Lib.hid (own_below OWN3.out hb4 nr_)
      clear hb4 N3 OWN3 B3 Hsg k0 k1
      obtain ⟨k0,k1,-,-⟩:=two_cells N4.out
      by_cases hp0:0 < q.num
      ·rw [if_pos ⟨Hd.out,hp0⟩] at Hsucc
       rw [Int.sign_eq_one_of_pos hp0]
       clear hp0 Hd
       go_wp2_with fail
       refine Calls.mono (Htx.out _) ?_
       rintro e w5 ⟨rfl,hb5⟩
       have B5:=Lib.hid (B4.out.trans (hb5.mono B4.out.size))
       have OWN5:=Lib.hid (own_below OWN4.out hb5 nr_)
       clear hb5 N4 OWN4 B4 Htx k0 k1
       have Hlen:=Lib.hid (txL_length (ps.take k) (l.take k))
       have hLk:(txL (ps.take k) (l.take k)).length≤k:=by have:=Hlen.out; rw [List.length_take] at this; omega
       go_wp2_with (at_builtin; refine wpList_append_one rfl (.tmp 58) (.tmp 60) 127 rfl elStr _ (.string _) rfl rfl OWN5.out B5.out.size rfl (by omega) (by omega) ?_)
       intro v' w9 hown9 hg9 hat9
       have Hb9:Hid (Below w.heap.size w w9):=(B5.out.alloc B5.out.size _).grown hg9 (by simp; have:=B5.out.size; omega) (fun k hk=>(OWN5.out.lt k hk).1)
       obtain ⟨b9,d9,rfl⟩:=own_form hown9
       have Hown9:=Lib.hid hown9
       clear hown9 hg9 hat9
       go_wp2_with fail
       go_roundw
       case rel =>
        refine ⟨k + 1,b9,d9,by omega,by go_num,?_,?_,Hb9⟩
        ·rw [Hsucc.out,List.length_append]; rfl
        ·show World.ownsRow ..
         rw [Hsucc.out,strs_append,List.length_append]
         exact Hown9.out
       case measure=>simp [intOf]; omega
      ·rw [if_neg (fun h=>hp0 h.2)] at Hsucc
       have hsg:¬ q.num.sign > 0:=by
        intro h
        exact hp0 (Int.sign_pos_iff.1 h)
       generalize q.num.sign=sg at *
       clear hp0 Hd
       go_wp2_with fail
       refine Calls.mono (Htx.out _) ?_
       rintro e w5 ⟨rfl,hb5⟩
       have B5:=Lib.hid (B4.out.trans (hb5.mono B4.out.size))
       have OWN5:=Lib.hid (own_below OWN4.out hb5 nr_)
       clear hb5 N4 OWN4 B4 Htx k0 k1
       have Hlen:=Lib.hid (txL_length (ps.take k) (l.take k))
       have hLk:(txL (ps.take k) (l.take k)).length≤k:=by have:=Hlen.out; rw [List.length_take] at this; omega
       go_wp2_with (at_builtin; refine wpList_append_one rfl (.tmp 58) (.tmp 60) 127 rfl elStr _ (.string _) rfl rfl OWN5.out B5.out.size rfl (by omega) (by omega) ?_)
       intro v' w9 hown9 hg9 hat9
       have Hb9:Hid (Below w.heap.size w w9):=(B5.out.alloc B5.out.size _).grown hg9 (by simp; have:=B5.out.size; omega) (fun k hk=>(OWN5.out.lt k hk).1)
       obtain ⟨b9,d9,rfl⟩:=own_form hown9
       have Hown9:=Lib.hid hown9
       clear hown9 hg9 hat9
       go_wp2_with fail
       go_roundw
       case rel =>
        refine ⟨k + 1,b9,d9,by omega,by go_num,?_,?_,Hb9⟩
        ·rw [Hsucc.out,List.length_append]; rfl
        ·show World.ownsRow ..
         rw [Hsucc.out,strs_append,List.length_append]
         exact Hown9.out
       case measure=>simp [intOf]; omega
     ·rw [decide_eq_false hd] at ho
      rw [if_neg (fun h=>hd h.1)] at Hsucc
      clear hd
      go_wp2_with fail
      refine Calls.mono (Htx.out _) ?_
      rintro e w5 ⟨rfl,hb5⟩
      have B5:=Lib.hid (B3.out.trans (hb5.mono B3.out.size))
      have OWN5:=Lib.hid (own_below OWN3.out hb5 nr_)
      clear hb5 N3 OWN3 B3 Htx k0 k1
      have Hlen:=Lib.hid (txL_length (ps.take k) (l.take k))
      have hLk:(txL (ps.take k) (l.take k)).length≤k:=by have:=Hlen.out; rw [List.length_take] at this; omega
      go_wp2_with (at_builtin; refine wpList_append_one rfl (.tmp 58) (.tmp 60) 127 rfl elStr _ (.string _) rfl rfl OWN5.out B5.out.size rfl (by omega) (by omega) ?_)
      intro v' w9 hown9 hg9 hat9
      have Hb9:Hid (Below w.heap.size w w9):=(B5.out.alloc B5.out.size _).grown hg9 (by simp; have:=B5.out.size; omega) (fun k hk=>(OWN5.out.lt k hk).1)
      obtain ⟨b9,d9,rfl⟩:=own_form hown9
      have Hown9:=Lib.hid hown9
      clear hown9 hg9 hat9
      go_wp2_with fail
      go_roundw
      case rel =>
       refine ⟨k + 1,b9,d9,by omega,by go_num,?_,?_,Hb9⟩
       ·rw [Hsucc.out,List.length_append]; rfl
       ·show World.ownsRow ..
        rw [Hsucc.out,strs_append,List.length_append]
        exact Hown9.out
      case measure=>simp [intOf]; omega
  ·have hlt':¬ (k:Int) < n:=by omega
   have hkn:k=n:=by omega
   subst hkn
   rw [show ps.take k=ps by rw [← Hn.out,List.take_length],show l.take k=l by rw [← Hpl.out,List.take_length]] at OWN ⊢
   have Hll:=Lib.hid (txL_length ps l)
   have Hjl:Hid ((Lib.join ((txL ps l).map (·.data.toList)) [32]).length≤(txL ps l).length * 101):=join_le (txL ps l) [32] 100 (txL_size HA.out.pr HA.out.sm)
   generalize hx:txL ps l=xs at *
   clear hx
   by_cases h0:xs.length=0
   ·rw [if_pos h0] at Hv
    have h0':((xs.length:Int) == 0)=true:=by rw [h0]; rfl
    clear h0
    go_wp2_with fail
    go_ret2
    exact ⟨by rw [Hv.out]; rfl,B.out⟩
   ·rw [if_neg h0] at Hv
    have h0':((xs.length:Int) == 0)=false:=by rw [beq_eq_false_iff_ne]; omega
    obtain ⟨g,cap,hv,h1,h2,h3,h4,h5⟩:=own_open OWN.out (by omega)
    simp only [Value.slice.injEq] at hv
    obtain ⟨rfl,-,rfl⟩:=hv
    have Hj:Hid (Calls Tryz.prog 91 #[.slice (some ⟨g,0,none⟩) xs.length d,.string ⟨#[32]⟩] wr fun e w'=>e = .returned (.string ⟨(Lib.join (xs.map (·.data.toList)) [32]).toArray⟩)∧Below wr.heap.size wr w'):=by
     have hlen:=Hll.out
     exact Go.Proofs.Any.strings_Join laysJ extraJ g 0 d xs ⟨#[32]⟩ wr (by
      intro j x hj
      have hjl:=(List.getElem?_eq_some_iff.1 hj).1
      rw [Nat.zero_add,h4 j (by omega)]
      simp [strs,hj]) h2 (by rw [Hpl.out] at hlen; omega) h3 (by show (Lib.join (xs.map (·.data.toList)) [32]).length≤_; rw [Hpl.out] at hlen; have:=Hjl.out; omega)
    clear h0 h4 h5 h3
    go_wp2_with fail
    refine Calls.mono Hj.out ?_
    rintro e w9 ⟨rfl,hb⟩
    have B9:=Lib.hid (B.out.trans (hb.mono B.out.size))
    clear hb Hj
    go_wp2_with fail
    go_ret2
    exact ⟨by rw [Hv.out]; rfl,B9.out⟩
end Go.Proofs.YtlomhfknmhaboaaGreatDoor

namespace Go.Proofs.YtlomhfknmhaboaaGreatDoor
open Go.RowKit
theorem num_small (n:Nat) (h:n≤100000000000000000000):Num n:=num_pow (D:=21) (by omega) (by decide) (by decide)
theorem partR (w:World) (n:Int) (d:Nat) (q1 : -9223372036854775808≤n) (q2:n≤9223372036854775807) (q3:0 < d) (q4:d≤1000000) (L:Laid w) :
  Gives Tryz.prog 18 #[.int .i64 n,.int .i64 d] w (fr (mkRat n d)) :=
 part_of w n d _ fun W hW=>by
  have:=ofi_frac W n d q1 q2 (by omega) (num_small _ (by omega)) (num_small _ (by omega)) q3 (num_small _ (by omega)) (num_small _ (by omega)) (L.below hW)
  rw [redV_rat n d (by omega)] at this
  exact this
theorem sizeOk_of (W:World) (ps:List Int) (A0 A1:Option Addr) (l:List Rat) (D:Nat) (hl:l.length=ps.length) (hn:ps.length≤100) (hp:∀ p∈ps,2≤p∧p≤97) (hd:D≤1000) (h0:Rd W A0 (ints ps)) (h1:Rd W A1 (cellsQ l)) (hs:∀ q∈l,Sm D q):SizeOk W ps A0 A1 l D :=
 ⟨h0,h1,hl,hn,hp,hs,hd⟩
instance (D:Nat) (q:Rat):Decidable (Sm D q):=by unfold Sm; infer_instance
def kq (n:Int) (d:Nat):Rat:=mkRat n d
def kComma:List Rat:=[kq (-4) 1,kq 4 1,kq (-1) 1]
def kFifth:List Rat:=[kq (-1) 1,kq 1 1,kq 0 1]
def kOctave:List Rat:=[kq 1 1,kq 0 1,kq 0 1]
def kQuarter:List Rat:=[kq 0 1,kq 0 1,kq 1 4]
def kLast:List Rat:=[kq 1 2,kq (-1) 4,kq 1 1]
def kTwelve:List Rat:=sumQ 3 [kFifth] [kq 12 1]
def sm30 (l:List Rat):Bool:=l.all fun q=>decide (Sm 30 q)
theorem sm30_of {l:List Rat} (h:sm30 l=true):∀ q∈l,Sm 30 q:=fun q hq=>of_decide_eq_true (List.all_eq_true.1 h q hq)
theorem kp0:pcode [2,3,5]=0:=by decide +kernel
theorem kps:∀ p∈[(2:Int),3,5],2≤p∧p≤97:=by decide
theorem kOk (W:World) (A0 A1:Option Addr) (l:List Rat) (hl:l.length=3) (h0:Rd W A0 (ints [2,3,5])) (h1:Rd W A1 (cellsQ l)) (hs:sm30 l=true):SizeOk W [2,3,5] A0 A1 l 30 :=
 sizeOk_of W _ A0 A1 l 30 hl (by decide) kps (by decide) h0 h1 (sm30_of hs)
theorem kCompare (W:World) (A0 A1 A2:Option Addr) (h0:Rd W A0 (ints [2,3,5])) (h1:Rd W A1 (cellsQ kQuarter)) (h2:Rd W A2 (cellsQ kFifth)) (L:Laid W) :
  Gives Tryz.prog 21 #[.slice A0 3 3,.slice A1 3 3,.slice A2 3 3] W (.tuple #[.int .i64 (-1),.int .i64 0]):=by
 have:=Compare_quick W [2,3,5] A0 A1 A2 3 3 3 kQuarter kFifth (kOk W A0 A1 _ rfl h0 h1 (by decide +kernel)) (kOk W A0 A2 _ rfl h0 h2 (by decide +kernel)) kp0 L (.inr (by decide +kernel))
 rw [show sgnQ [2,3,5] (sumQ ([2,3,5]:List Int).length [kQuarter,kFifth] [1,-1]) = -1 by decide +kernel] at this
 exact this
theorem kFloor (W:World) (A0 A1 A2:Option Addr) (h0:Rd W A0 (ints [2,3,5])) (h1:Rd W A1 (cellsQ kOctave)) (h2:Rd W A2 (cellsQ kComma)) (L:Laid W) :
  Gives Tryz.prog 30 #[.slice A0 3 3,.slice A1 3 3,.slice A2 3 3] W (.tuple #[.string (itx 55),.int .i64 0]):=by
 refine Floor_of W [2,3,5] A0 A1 A2 3 3 3 kOctave kComma (kOk W A0 A1 _ rfl h0 h1 (by decide +kernel)) (kOk W A0 A2 _ rfl h0 h2 (by decide +kernel)) kp0 L (by decide +kernel) 55 fun W' hW=>?_
 exact floor_quick W' [2,3,5] A0 A1 A2 3 3 3 30 kOctave kComma ((kOk W A0 A1 _ rfl h0 h1 (by decide +kernel)).below hW) ((kOk W A0 A2 _ rfl h0 h2 (by decide +kernel)).below hW) (by decide) (L.below hW)
  (by decide +kernel) (by decide +kernel) (by decide +kernel) (by decide +kernel) (by decide +kernel) (by decide +kernel) (by decide +kernel) (by decide +kernel) (by decide +kernel) (by decide +kernel) (by decide +kernel) (by decide +kernel) (by decide +kernel) 55 (by decide +kernel) (by decide +kernel) (by decide)
theorem kScale (W:World) (A0 A1:Option Addr) (h0:Rd W A0 (ints [2,3,5])) (h1:Rd W A1 (cellsQ kFifth)) (L:Laid W) :
  Calls Tryz.prog 23 #[.slice A0 3 3,.slice A1 3 3,fr (kq 12 1)] W fun e w'=>∃ a c,e = .returned (.tuple #[.slice a 3 c,.int .i64 0])∧Rd w' a (cellsQ kTwelve)∧Below W.heap.size W w' :=
 scale_ok W [2,3,5] A0 A1 3 3 kFifth (kq 12 1) (kOk W A0 A1 _ rfl h0 h1 (by decide +kernel)) kp0 L (by decide +kernel) (sm30_of (by decide +kernel))
theorem kRound (W:World) (A0 A1 A2:Option Addr) (c:Nat) (h0:Rd W A0 (ints [2,3,5])) (h1:Rd W A1 (cellsQ kTwelve)) (h2:Rd W A2 (cellsQ kOctave)) (L:Laid W) :
  Gives Tryz.prog 31 #[.slice A0 3 3,.slice A1 3 c,.slice A2 3 3] W (.tuple #[.string (itx 7),.int .i64 0]):=by
 refine Round_of W [2,3,5] A0 A1 A2 3 c 3 kTwelve kOctave (kOk W A0 A1 _ (by decide +kernel) h0 h1 (by decide +kernel)) (kOk W A0 A2 _ rfl h0 h2 (by decide +kernel)) kp0 L (by decide +kernel) 7 fun W' a3 a4 c3 c4 X Y L'=>?_
 exact floor_quick W' [2,3,5] A0 a3 a4 3 c3 c4 _ _ _ X Y (by decide) L'
  (by decide +kernel) (by decide +kernel) (by decide +kernel) (by decide +kernel) (by decide +kernel) (by decide +kernel) (by decide +kernel) (by decide +kernel) (by decide +kernel) (by decide +kernel) (by decide +kernel) (by decide +kernel) (by decide +kernel) 7 (by decide +kernel) (by decide +kernel) (by decide)
theorem kText (W:World) (A0 A1:Option Addr) (h0:Rd W A0 (ints [2,3,5])) (h1:Rd W A1 (cellsQ kLast)) (L:Laid W) :
  Gives Tryz.prog 45 #[.slice A0 3 3,.slice A1 3 3] W (.tuple #[.string ⟨#[50,94,40,49,47,50,41,32,51,94,40,45,49,47,52,41,32,53]⟩,.int .i64 0]):=by
 have:=text_ok W [2,3,5] A0 A1 3 3 kLast (kOk W A0 A1 _ rfl h0 h1 (by decide +kernel)) kp0 (by decide) L
 rw [show txS [2,3,5] kLast=⟨#[50,94,40,49,47,50,41,32,51,94,40,45,49,47,52,41,32,53]⟩ by decide +kernel] at this
 exact this
end Go.Proofs.YtlomhfknmhaboaaGreatDoor

namespace Go.Proofs.YtlomhfknmhaboaaGreatDoor
open Go.RowKit
theorem k55:((itx 55).toList == [53,53])=true:=by decide +kernel
theorem k7:((itx 7).toList == [55])=true:=by decide +kernel
theorem rd_ints {w:World} {g:Nat} {l:List Int} {t:TypeId} (h:w.heap[g]?=some (.cells (ints l).toArray t (0,0))):Rd w (some ⟨g,0,none⟩) (ints l):=by
 have:=rd_obj h
 simpa using this
set_option maxRecDepth 100000 in
set_option maxHeartbeats 16000000 in
theorem known_ok (w:World) (L:Laid w):Gives Tryz.prog 12 #[] w (.bool true):=by
 unfold Gives
 have HL:=Lib.hid L
 have B0:=Lib.hid (Below.refl w.heap.size w)
 obtain ⟨a,ha⟩:∃ x:Rat,x=kq (-4) 1:=⟨_,rfl⟩
 obtain ⟨b,hb⟩:∃ x:Rat,x=kq 4 1:=⟨_,rfl⟩
 obtain ⟨c,hc⟩:∃ x:Rat,x=kq (-1) 1:=⟨_,rfl⟩
 obtain ⟨e,he⟩:∃ x:Rat,x=kq 1 1:=⟨_,rfl⟩
 obtain ⟨z,hz⟩:∃ x:Rat,x=kq 0 1:=⟨_,rfl⟩
 obtain ⟨q,hq⟩:∃ x:Rat,x=kq 1 4:=⟨_,rfl⟩
 obtain ⟨t,ht⟩:∃ x:Rat,x=kq 12 1:=⟨_,rfl⟩
 obtain ⟨h,hh⟩:∃ x:Rat,x=kq 1 2:=⟨_,rfl⟩
 obtain ⟨m,hm⟩:∃ x:Rat,x=kq (-1) 4:=⟨_,rfl⟩
 have Pa:Hid (∀ W,Below w.heap.size w W→Gives Tryz.prog 18 #[.int .i64 (-4),.int .i64 1] W (fr a)):=fun W hW=>by subst ha; exact partR W (-4) 1 (by decide) (by decide) (by decide) (by decide) (L.below hW)
 have Pb:Hid (∀ W,Below w.heap.size w W→Gives Tryz.prog 18 #[.int .i64 4,.int .i64 1] W (fr b)):=fun W hW=>by subst hb; exact partR W 4 1 (by decide) (by decide) (by decide) (by decide) (L.below hW)
 have Pc:Hid (∀ W,Below w.heap.size w W→Gives Tryz.prog 18 #[.int .i64 (-1),.int .i64 1] W (fr c)):=fun W hW=>by subst hc; exact partR W (-1) 1 (by decide) (by decide) (by decide) (by decide) (L.below hW)
 have Pe:Hid (∀ W,Below w.heap.size w W→Gives Tryz.prog 18 #[.int .i64 1,.int .i64 1] W (fr e)):=fun W hW=>by subst he; exact partR W 1 1 (by decide) (by decide) (by decide) (by decide) (L.below hW)
 have Pz:Hid (∀ W,Below w.heap.size w W→Gives Tryz.prog 18 #[.int .i64 0,.int .i64 1] W (fr z)):=fun W hW=>by subst hz; exact partR W 0 1 (by decide) (by decide) (by decide) (by decide) (L.below hW)
 have Pq:Hid (∀ W,Below w.heap.size w W→Gives Tryz.prog 18 #[.int .i64 1,.int .i64 4] W (fr q)):=fun W hW=>by subst hq; exact partR W 1 4 (by decide) (by decide) (by decide) (by decide) (L.below hW)
 have Pt:Hid (∀ W,Below w.heap.size w W→Gives Tryz.prog 18 #[.int .i64 12,.int .i64 1] W (fr t)):=fun W hW=>by subst ht; exact partR W 12 1 (by decide) (by decide) (by decide) (by decide) (L.below hW)
 have Ph:Hid (∀ W,Below w.heap.size w W→Gives Tryz.prog 18 #[.int .i64 1,.int .i64 2] W (fr h)):=fun W hW=>by subst hh; exact partR W 1 2 (by decide) (by decide) (by decide) (by decide) (L.below hW)
 have Pm:Hid (∀ W,Below w.heap.size w W→Gives Tryz.prog 18 #[.int .i64 (-1),.int .i64 4] W (fr m)):=fun W hW=>by subst hm; exact partR W (-1) 4 (by decide) (by decide) (by decide) (by decide) (L.below hW)
 obtain ⟨tw,htw⟩:∃ x:List Rat,x=kTwelve:=⟨_,rfl⟩
 have HC:Hid (∀ W g0 g1 g2,Below w.heap.size w W→Rd W (some ⟨g0,0,none⟩) (ints [2,3,5])→Rd W (some ⟨g1,0,none⟩) (cellsQ [z,z,q])→Rd W (some ⟨g2,0,none⟩) (cellsQ [c,e,z])→Gives Tryz.prog 21 #[.slice (some ⟨g0,0,none⟩) 3 3,.slice (some ⟨g1,0,none⟩) 3 3,.slice (some ⟨g2,0,none⟩) 3 3] W (.tuple #[.int .i64 (-1),.int .i64 0])):=fun W g0 g1 g2 hW h0 h1 h2=>by subst hz; subst hq; subst hc; subst he; exact kCompare W _ _ _ h0 h1 h2 (L.below hW)
 have HF:Hid (∀ W g0 g1 g2,Below w.heap.size w W→Rd W (some ⟨g0,0,none⟩) (ints [2,3,5])→Rd W (some ⟨g1,0,none⟩) (cellsQ [e,z,z])→Rd W (some ⟨g2,0,none⟩) (cellsQ [a,b,c])→Gives Tryz.prog 30 #[.slice (some ⟨g0,0,none⟩) 3 3,.slice (some ⟨g1,0,none⟩) 3 3,.slice (some ⟨g2,0,none⟩) 3 3] W (.tuple #[.string (itx 55),.int .i64 0])):=fun W g0 g1 g2 hW h0 h1 h2=>by subst hz; subst ha; subst hb; subst hc; subst he; exact kFloor W _ _ _ h0 h1 h2 (L.below hW)
 have HS:Hid (∀ W g0 g1,Below w.heap.size w W→Rd W (some ⟨g0,0,none⟩) (ints [2,3,5])→Rd W (some ⟨g1,0,none⟩) (cellsQ [c,e,z])→Calls Tryz.prog 23 #[.slice (some ⟨g0,0,none⟩) 3 3,.slice (some ⟨g1,0,none⟩) 3 3,fr t] W fun e w'=>∃ a c,e = .returned (.tuple #[.slice a 3 c,.int .i64 0])∧Rd w' a (cellsQ tw)∧Below W.heap.size W w'):=fun W g0 g1 hW h0 h1=>by subst hz; subst hc; subst he; subst ht; subst htw; exact kScale W _ _ h0 h1 (L.below hW)
 have HR:Hid (∀ W g0 a1 c1 g2,Below w.heap.size w W→Rd W (some ⟨g0,0,none⟩) (ints [2,3,5])→Rd W a1 (cellsQ tw)→Rd W (some ⟨g2,0,none⟩) (cellsQ [e,z,z])→Gives Tryz.prog 31 #[.slice (some ⟨g0,0,none⟩) 3 3,.slice a1 3 c1,.slice (some ⟨g2,0,none⟩) 3 3] W (.tuple #[.string (itx 7),.int .i64 0])):=fun W g0 a1 c1 g2 hW h0 h1 h2=>by subst hz; subst he; subst htw; exact kRound W _ _ _ _ h0 h1 h2 (L.below hW)
 have HT:Hid (∀ W g0 g1,Below w.heap.size w W→Rd W (some ⟨g0,0,none⟩) (ints [2,3,5])→Rd W (some ⟨g1,0,none⟩) (cellsQ [h,m,e])→Gives Tryz.prog 45 #[.slice (some ⟨g0,0,none⟩) 3 3,.slice (some ⟨g1,0,none⟩) 3 3] W (.tuple #[.string ⟨#[50,94,40,49,47,50,41,32,51,94,40,45,49,47,52,41,32,53]⟩,.int .i64 0])):=fun W g0 g1 hW h0 h1=>by subst hh; subst hm; subst he; exact kText W _ _ h0 h1 (L.below hW)
 clear L ha hb hc he hz hq ht hh hm htw
 unfold fr fv at Pa Pb Pc Pe Pz Pq Pt Ph Pm HS
 go_enter Tryz.func12,Tryz.ntmps12
 go_wp2_with fail
 have B1:=Lib.hid (B0.out.alloc B0.out.size (.cells #[.int .i64 2,.int .i64 3,.int .i64 5] 3))
 have Fp:=Lib.hid (heap_at w #[.int .i64 2,.int .i64 3,.int .i64 5] 3 _ rfl)
 generalize hg0:w.heap.size=gp at Fp
 clear hg0 B0
 generalize w.alloc (.cells #[.int .i64 2,.int .i64 3,.int .i64 5] 3)=w1 at *
 refine Calls.mono (Pa.out _ B1.out) ?_
 rintro e_ w2 ⟨rfl,hb_⟩
 have B_w2:=Lib.hid (B1.out.trans (hb_.mono B1.out.size))
 replace Fp:=Lib.hid (heap_kept Fp.out hb_ nr_)
 clear hb_ B1
 go_wp2_with fail
 refine Calls.mono (Pb.out _ B_w2.out) ?_
 rintro e_ w3 ⟨rfl,hb_⟩
 have B_w3:=Lib.hid (B_w2.out.trans (hb_.mono B_w2.out.size))
 replace Fp:=Lib.hid (heap_kept Fp.out hb_ nr_)
 clear hb_ B_w2
 go_wp2_with fail
 refine Calls.mono (Pc.out _ B_w3.out) ?_
 rintro e_ w4 ⟨rfl,hb_⟩
 have B_w4:=Lib.hid (B_w3.out.trans (hb_.mono B_w3.out.size))
 replace Fp:=Lib.hid (heap_kept Fp.out hb_ nr_)
 clear hb_ B_w3
 go_wp2_with fail
 have B_w4b:=Lib.hid (B_w4.out.alloc B_w4.out.size (.cells #[.string (itx a.num),.string (dec a.den),.string (itx b.num),.string (dec b.den),.string (itx c.num),.string (dec c.den)] 30))
 have Fc:=Lib.hid (heap_at w4 #[.string (itx a.num),.string (dec a.den),.string (itx b.num),.string (dec b.den),.string (itx c.num),.string (dec c.den)] 30 _ rfl)
 replace Fp:=Lib.hid (heap_old Fp.out (.cells #[.string (itx a.num),.string (dec a.den),.string (itx b.num),.string (dec b.den),.string (itx c.num),.string (dec c.den)] 30))
 clear B_w4
 generalize hg_:w4.heap.size=gFc at *
 generalize hw_:w4.alloc (.cells #[.string (itx a.num),.string (dec a.den),.string (itx b.num),.string (dec b.den),.string (itx c.num),.string (dec c.den)] 30)=w5 at *
 clear hg_ hw_
 refine Calls.mono (Pc.out _ B_w4b.out) ?_
 rintro e_ w6 ⟨rfl,hb_⟩
 have B_w6:=Lib.hid (B_w4b.out.trans (hb_.mono B_w4b.out.size))
 replace Fp:=Lib.hid (heap_kept Fp.out hb_ nr_)
 replace Fc:=Lib.hid (heap_kept Fc.out hb_ nr_)
 clear hb_ B_w4b
 go_wp2_with fail
 refine Calls.mono (Pe.out _ B_w6.out) ?_
 rintro e_ w7 ⟨rfl,hb_⟩
 have B_w7:=Lib.hid (B_w6.out.trans (hb_.mono B_w6.out.size))
 replace Fp:=Lib.hid (heap_kept Fp.out hb_ nr_)
 replace Fc:=Lib.hid (heap_kept Fc.out hb_ nr_)
 clear hb_ B_w6
 go_wp2_with fail
 refine Calls.mono (Pz.out _ B_w7.out) ?_
 rintro e_ w8 ⟨rfl,hb_⟩
 have B_w8:=Lib.hid (B_w7.out.trans (hb_.mono B_w7.out.size))
 replace Fp:=Lib.hid (heap_kept Fp.out hb_ nr_)
 replace Fc:=Lib.hid (heap_kept Fc.out hb_ nr_)
 clear hb_ B_w7
 go_wp2_with fail
 have B_w8b:=Lib.hid (B_w8.out.alloc B_w8.out.size (.cells #[.string (itx c.num),.string (dec c.den),.string (itx e.num),.string (dec e.den),.string (itx z.num),.string (dec z.den)] 30))
 have Ff:=Lib.hid (heap_at w8 #[.string (itx c.num),.string (dec c.den),.string (itx e.num),.string (dec e.den),.string (itx z.num),.string (dec z.den)] 30 _ rfl)
 replace Fp:=Lib.hid (heap_old Fp.out (.cells #[.string (itx c.num),.string (dec c.den),.string (itx e.num),.string (dec e.den),.string (itx z.num),.string (dec z.den)] 30))
 replace Fc:=Lib.hid (heap_old Fc.out (.cells #[.string (itx c.num),.string (dec c.den),.string (itx e.num),.string (dec e.den),.string (itx z.num),.string (dec z.den)] 30))
 clear B_w8
 generalize hg_:w8.heap.size=gFf at *
 generalize hw_:w8.alloc (.cells #[.string (itx c.num),.string (dec c.den),.string (itx e.num),.string (dec e.den),.string (itx z.num),.string (dec z.den)] 30)=w9 at *
 clear hg_ hw_
 refine Calls.mono (Pe.out _ B_w8b.out) ?_
 rintro e_ w10 ⟨rfl,hb_⟩
 have B_w10:=Lib.hid (B_w8b.out.trans (hb_.mono B_w8b.out.size))
 replace Fp:=Lib.hid (heap_kept Fp.out hb_ nr_)
 replace Fc:=Lib.hid (heap_kept Fc.out hb_ nr_)
 replace Ff:=Lib.hid (heap_kept Ff.out hb_ nr_)
 clear hb_ B_w8b
 go_wp2_with fail
 refine Calls.mono (Pz.out _ B_w10.out) ?_
 rintro e_ w11 ⟨rfl,hb_⟩
 have B_w11:=Lib.hid (B_w10.out.trans (hb_.mono B_w10.out.size))
 replace Fp:=Lib.hid (heap_kept Fp.out hb_ nr_)
 replace Fc:=Lib.hid (heap_kept Fc.out hb_ nr_)
 replace Ff:=Lib.hid (heap_kept Ff.out hb_ nr_)
 clear hb_ B_w10
 go_wp2_with fail
 refine Calls.mono (Pz.out _ B_w11.out) ?_
 rintro e_ w12 ⟨rfl,hb_⟩
 have B_w12:=Lib.hid (B_w11.out.trans (hb_.mono B_w11.out.size))
 replace Fp:=Lib.hid (heap_kept Fp.out hb_ nr_)
 replace Fc:=Lib.hid (heap_kept Fc.out hb_ nr_)
 replace Ff:=Lib.hid (heap_kept Ff.out hb_ nr_)
 clear hb_ B_w11
 go_wp2_with fail
 have B_w12b:=Lib.hid (B_w12.out.alloc B_w12.out.size (.cells #[.string (itx e.num),.string (dec e.den),.string (itx z.num),.string (dec z.den),.string (itx z.num),.string (dec z.den)] 30))
 have Fo:=Lib.hid (heap_at w12 #[.string (itx e.num),.string (dec e.den),.string (itx z.num),.string (dec z.den),.string (itx z.num),.string (dec z.den)] 30 _ rfl)
 replace Fp:=Lib.hid (heap_old Fp.out (.cells #[.string (itx e.num),.string (dec e.den),.string (itx z.num),.string (dec z.den),.string (itx z.num),.string (dec z.den)] 30))
 replace Fc:=Lib.hid (heap_old Fc.out (.cells #[.string (itx e.num),.string (dec e.den),.string (itx z.num),.string (dec z.den),.string (itx z.num),.string (dec z.den)] 30))
 replace Ff:=Lib.hid (heap_old Ff.out (.cells #[.string (itx e.num),.string (dec e.den),.string (itx z.num),.string (dec z.den),.string (itx z.num),.string (dec z.den)] 30))
 clear B_w12
 generalize hg_:w12.heap.size=gFo at *
 generalize hw_:w12.alloc (.cells #[.string (itx e.num),.string (dec e.den),.string (itx z.num),.string (dec z.den),.string (itx z.num),.string (dec z.den)] 30)=w13 at *
 clear hg_ hw_
 refine Calls.mono (Pz.out _ B_w12b.out) ?_
 rintro e_ w14 ⟨rfl,hb_⟩
 have B_w14:=Lib.hid (B_w12b.out.trans (hb_.mono B_w12b.out.size))
 replace Fp:=Lib.hid (heap_kept Fp.out hb_ nr_)
 replace Fc:=Lib.hid (heap_kept Fc.out hb_ nr_)
 replace Ff:=Lib.hid (heap_kept Ff.out hb_ nr_)
 replace Fo:=Lib.hid (heap_kept Fo.out hb_ nr_)
 clear hb_ B_w12b
 go_wp2_with fail
 refine Calls.mono (Pz.out _ B_w14.out) ?_
 rintro e_ w15 ⟨rfl,hb_⟩
 have B_w15:=Lib.hid (B_w14.out.trans (hb_.mono B_w14.out.size))
 replace Fp:=Lib.hid (heap_kept Fp.out hb_ nr_)
 replace Fc:=Lib.hid (heap_kept Fc.out hb_ nr_)
 replace Ff:=Lib.hid (heap_kept Ff.out hb_ nr_)
 replace Fo:=Lib.hid (heap_kept Fo.out hb_ nr_)
 clear hb_ B_w14
 go_wp2_with fail
 refine Calls.mono (Pq.out _ B_w15.out) ?_
 rintro e_ w16 ⟨rfl,hb_⟩
 have B_w16:=Lib.hid (B_w15.out.trans (hb_.mono B_w15.out.size))
 replace Fp:=Lib.hid (heap_kept Fp.out hb_ nr_)
 replace Fc:=Lib.hid (heap_kept Fc.out hb_ nr_)
 replace Ff:=Lib.hid (heap_kept Ff.out hb_ nr_)
 replace Fo:=Lib.hid (heap_kept Fo.out hb_ nr_)
 clear hb_ B_w15
 go_wp2_with fail
 have B_w16b:=Lib.hid (B_w16.out.alloc B_w16.out.size (.cells #[.string (itx z.num),.string (dec z.den),.string (itx z.num),.string (dec z.den),.string (itx q.num),.string (dec q.den)] 30))
 have Fq:=Lib.hid (heap_at w16 #[.string (itx z.num),.string (dec z.den),.string (itx z.num),.string (dec z.den),.string (itx q.num),.string (dec q.den)] 30 _ rfl)
 replace Fp:=Lib.hid (heap_old Fp.out (.cells #[.string (itx z.num),.string (dec z.den),.string (itx z.num),.string (dec z.den),.string (itx q.num),.string (dec q.den)] 30))
 replace Fc:=Lib.hid (heap_old Fc.out (.cells #[.string (itx z.num),.string (dec z.den),.string (itx z.num),.string (dec z.den),.string (itx q.num),.string (dec q.den)] 30))
 replace Ff:=Lib.hid (heap_old Ff.out (.cells #[.string (itx z.num),.string (dec z.den),.string (itx z.num),.string (dec z.den),.string (itx q.num),.string (dec q.den)] 30))
 replace Fo:=Lib.hid (heap_old Fo.out (.cells #[.string (itx z.num),.string (dec z.den),.string (itx z.num),.string (dec z.den),.string (itx q.num),.string (dec q.den)] 30))
 clear B_w16
 generalize hg_:w16.heap.size=gFq at *
 generalize hw_:w16.alloc (.cells #[.string (itx z.num),.string (dec z.den),.string (itx z.num),.string (dec z.den),.string (itx q.num),.string (dec q.den)] 30)=w17 at *
 clear hg_ hw_
 have hC:=HC.out _ _ _ _ B_w16b.out (rd_obj Fp.out) (rd_obj Fq.out) (rd_obj Ff.out)
 clear HC
 refine Calls.mono (hC) ?_
 rintro e_ w18 ⟨rfl,hb_⟩
 have B_w18:=Lib.hid (B_w16b.out.trans (hb_.mono B_w16b.out.size))
 replace Fp:=Lib.hid (heap_kept Fp.out hb_ nr_)
 replace Fc:=Lib.hid (heap_kept Fc.out hb_ nr_)
 replace Ff:=Lib.hid (heap_kept Ff.out hb_ nr_)
 replace Fo:=Lib.hid (heap_kept Fo.out hb_ nr_)
 replace Fq:=Lib.hid (heap_kept Fq.out hb_ nr_)
 clear hb_ B_w16b
 clear hC Fq
 go_wp2_with fail
 have hF:=HF.out _ _ _ _ B_w18.out (rd_obj Fp.out) (rd_obj Fo.out) (rd_obj Fc.out)
 clear HF
 refine Calls.mono (hF) ?_
 rintro e_ w19 ⟨rfl,hb_⟩
 have B_w19:=Lib.hid (B_w18.out.trans (hb_.mono B_w18.out.size))
 replace Fp:=Lib.hid (heap_kept Fp.out hb_ nr_)
 replace Fc:=Lib.hid (heap_kept Fc.out hb_ nr_)
 replace Ff:=Lib.hid (heap_kept Ff.out hb_ nr_)
 replace Fo:=Lib.hid (heap_kept Fo.out hb_ nr_)
 clear hb_ B_w18
 clear hF Fc
 go_wp2_with fail
 refine Calls.mono (Pt.out _ B_w19.out) ?_
 rintro e_ w20 ⟨rfl,hb_⟩
 have B_w20:=Lib.hid (B_w19.out.trans (hb_.mono B_w19.out.size))
 replace Fp:=Lib.hid (heap_kept Fp.out hb_ nr_)
 replace Ff:=Lib.hid (heap_kept Ff.out hb_ nr_)
 replace Fo:=Lib.hid (heap_kept Fo.out hb_ nr_)
 clear hb_ B_w19
 go_wp2_with fail
 have hS:=HS.out _ _ _ B_w20.out (rd_obj Fp.out) (rd_obj Ff.out)
 clear HS Ff
 refine Calls.mono hS ?_
 rintro e_ w21 ⟨a5,c5,rfl,hr,hb_⟩
 have B_w21:=Lib.hid (B_w20.out.trans (hb_.mono B_w20.out.size))
 replace Fp:=Lib.hid (heap_kept Fp.out hb_ nr_)
 replace Fo:=Lib.hid (heap_kept Fo.out hb_ nr_)
 have Rt:=Lib.hid hr
 clear hb_ B_w20 hr hS
 go_wp2_with fail
 have hR:=HR.out _ _ _ c5 _ B_w21.out (rd_obj Fp.out) Rt.out (rd_obj Fo.out)
 clear HR Rt
 refine Calls.mono (hR) ?_
 rintro e_ w22 ⟨rfl,hb_⟩
 have B_w22:=Lib.hid (B_w21.out.trans (hb_.mono B_w21.out.size))
 replace Fp:=Lib.hid (heap_kept Fp.out hb_ nr_)
 replace Fo:=Lib.hid (heap_kept Fo.out hb_ nr_)
 clear hb_ B_w21
 clear hR Fo
 go_wp2_with fail
 refine Calls.mono (Ph.out _ B_w22.out) ?_
 rintro e_ w23 ⟨rfl,hb_⟩
 have B_w23:=Lib.hid (B_w22.out.trans (hb_.mono B_w22.out.size))
 replace Fp:=Lib.hid (heap_kept Fp.out hb_ nr_)
 clear hb_ B_w22
 go_wp2_with fail
 refine Calls.mono (Pm.out _ B_w23.out) ?_
 rintro e_ w24 ⟨rfl,hb_⟩
 have B_w24:=Lib.hid (B_w23.out.trans (hb_.mono B_w23.out.size))
 replace Fp:=Lib.hid (heap_kept Fp.out hb_ nr_)
 clear hb_ B_w23
 go_wp2_with fail
 refine Calls.mono (Pe.out _ B_w24.out) ?_
 rintro e_ w25 ⟨rfl,hb_⟩
 have B_w25:=Lib.hid (B_w24.out.trans (hb_.mono B_w24.out.size))
 replace Fp:=Lib.hid (heap_kept Fp.out hb_ nr_)
 clear hb_ B_w24
 go_wp2_with fail
 have B_w25b:=Lib.hid (B_w25.out.alloc B_w25.out.size (.cells #[.string (itx h.num),.string (dec h.den),.string (itx m.num),.string (dec m.den),.string (itx e.num),.string (dec e.den)] 30))
 have Fl:=Lib.hid (heap_at w25 #[.string (itx h.num),.string (dec h.den),.string (itx m.num),.string (dec m.den),.string (itx e.num),.string (dec e.den)] 30 _ rfl)
 replace Fp:=Lib.hid (heap_old Fp.out (.cells #[.string (itx h.num),.string (dec h.den),.string (itx m.num),.string (dec m.den),.string (itx e.num),.string (dec e.den)] 30))
 clear B_w25
 generalize hg_:w25.heap.size=gFl at *
 generalize hw_:w25.alloc (.cells #[.string (itx h.num),.string (dec h.den),.string (itx m.num),.string (dec m.den),.string (itx e.num),.string (dec e.den)] 30)=w26 at *
 clear hg_ hw_
 have hT:=HT.out _ _ _ B_w25b.out (rd_obj Fp.out) (rd_obj Fl.out)
 clear HT
 refine Calls.mono (hT) ?_
 rintro e_ w27 ⟨rfl,hb_⟩
 have B_w27:=Lib.hid (B_w25b.out.trans (hb_.mono B_w25b.out.size))
 replace Fp:=Lib.hid (heap_kept Fp.out hb_ nr_)
 replace Fl:=Lib.hid (heap_kept Fl.out hb_ nr_)
 clear hb_ B_w25b
 clear hT Fl Fp
 have k55:=k55
 have k7:=k7
 go_wp2_with fail
 go_ret
 exact ⟨rfl,B_w27.out⟩
end Go.Proofs.YtlomhfknmhaboaaGreatDoor

namespace Go.Proofs.YtlomhfknmhaboaaGreatDoor
open Go.RowKit
def primesL:Nat→List Int
 | 0=>[2,3,5] | 1=>[2,3] | 2=>[2,3,5,7] | 3=>[2,3,7] | 4=>[3,5,7] | 5=>[2] | 6=>[2,5,7] | 7=>[2,3,11] | 8=>[2,3,5,13] | _=>[2,3,7,11]
theorem primesL_ok:∀ k,k < 10→pcode (primesL k)=0∧(primesL k).length≤4∧0 < (primesL k).length∧(∀ p∈primesL k,2≤p∧p≤13):=by decide +kernel
set_option maxRecDepth 100000 in
set_option maxHeartbeats 8000000 in
theorem primes_any (w:World) (n:Nat) (hn:n < 256) :
  Calls Tryz.prog 13 #[.int .u8 n] w fun e w'=>∃ g,e = .returned (.slice (some ⟨g,0,none⟩) (primesL (n % 10)).length (primesL (n % 10)).length)∧Rd w' (some ⟨g,0,none⟩) (ints (primesL (n % 10)))∧Below w.heap.size w w':=by
 have htm:Int.tmod (n:Int) 10=((n % 10:Nat):Int):=by rw [Int.tmod_eq_emod_of_nonneg (by omega)]; omega
 have hk:n % 10 < 10:=Nat.mod_lt _ (by decide)
 generalize n % 10=k at *
 clear hn
 go_enter Tryz.func13,Tryz.ntmps13
 have hk':(0:Int)≤k∧(k:Int) < 10:=⟨by omega,by omega⟩
 go_wp2_with fail
 go_ret
 clear hk'
 have h10:k=0∨k=1∨k=2∨k=3∨k=4∨k=5∨k=6∨k=7∨k=8∨k=9:=by omega
 rcases h10 with rfl | rfl | rfl | rfl | rfl | rfl | rfl | rfl | rfl | rfl
 all_goals
  refine ⟨_,rfl,?_,?_⟩
  ·refine rd_ints (t:=3) ?_
   repeat (first | exact heap_at _ _ _ _ (by simp) | refine heap_old ?_ _)
  ·repeat (first | exact Below.refl _ _ | refine Below.alloc ?_ (by simp; try omega) _)
def densL:Nat→Nat
 | 0=>1 | 1=>2 | 2=>3 | 3=>4 | 4=>6 | _=>12
def fracQ (n:Int) (d:Nat):Rat:=mkRat (n.tmod 41) (densL (d % 6))
theorem densL_ok (k:Nat):0 < densL k∧densL k≤12:=by
 unfold densL; split <;> omega
end Go.Proofs.YtlomhfknmhaboaaGreatDoor

namespace Go.Proofs.YtlomhfknmhaboaaGreatDoor
open Go.RowKit
set_option maxRecDepth 100000 in
set_option maxHeartbeats 8000000 in
theorem fraction_any (w:World) (n:Int) (d:Nat) (_ : -128≤n∧n≤127) (hd:d < 256) (L:Laid w) :
  Gives Tryz.prog 24 #[.agg #[.int .i8 n,.int .u8 d]] w (fr (fracQ n d)):=by
 unfold Gives
 have t1:=Int.tmod_lt_of_pos n (show (0:Int) < 41 by decide)
 have t2:=Int.lt_tmod_of_pos n (show (0:Int) < 41 by decide)
 have hdl:=densL_ok (d % 6)
 have HP:Hid (∀ W,Below w.heap.size w W→Gives Tryz.prog 18 #[.int .i64 (n.tmod 41),.int .i64 (densL (d % 6))] W (fr (fracQ n d))):=fun W hW=>partR W (n.tmod 41) (densL (d % 6)) (by omega) (by omega) hdl.1 (by omega) (L.below hW)
 have htm:Int.tmod (d:Int) 6=((d % 6:Nat):Int):=by rw [Int.tmod_eq_emod_of_nonneg (by omega)]; omega
 have hk:d % 6 < 6:=Nat.mod_lt _ (by decide)
 have Hx:Hid (∀ h,([Value.int .i64 1,Value.int .i64 2,Value.int .i64 3,Value.int .i64 4,Value.int .i64 6,Value.int .i64 12]:List Value)[d % 6]'h = .int .i64 (densL (d % 6))):=fun h=>by
  have h6:d % 6=0∨d % 6=1∨d % 6=2∨d % 6=3∨d % 6=4∨d % 6=5:=by omega
  generalize d % 6=k at *
  rcases h6 with rfl | rfl | rfl | rfl | rfl | rfl <;> rfl
 unfold fr fv at HP ⊢
 generalize fracQ n d=q at *
 have hw:wrap64 (n.tmod 41)=n.tmod 41:=IntWalk.wrap64_in _ ⟨by omega,by omega⟩
 generalize d % 6=k at *
 clear hdl L
 have hk':(0:Int)≤k∧(k:Int) < 6:=⟨by omega,by omega⟩
 have B0:=Lib.hid (((Below.refl w.heap.size w).alloc nr_ (.cells #[.int .i8 n,.int .u8 d] 38)).alloc (by simp) (.cells #[.string ⟨#[]⟩,.string ⟨#[]⟩] 30))
 have K0:=Lib.hid (heap_old (heap_at w #[.int .i8 n,.int .u8 d] 38 _ rfl) (.cells #[.string ⟨#[]⟩,.string ⟨#[]⟩] 30))
 have M0:=Lib.hid (heap_at (w.alloc (.cells #[.int .i8 n,.int .u8 d] 38)) #[.string ⟨#[]⟩,.string ⟨#[]⟩] 30 _ rfl)
 rw [World.size_alloc] at M0
 go_enter Tryz.func24,Tryz.ntmps24
 go_wp2_with fail
 generalize (w.alloc (.cells #[.int .i8 n,.int .u8 d] 38)).alloc (.cells #[.string ⟨#[]⟩,.string ⟨#[]⟩] 30)=W0 at *
 obtain ⟨k0,k1,-,-⟩:=two_cells K0.out
 have q0:=BW.cell k0
 have q1:=BW.cell k1
 have hnon:Nonempty (BW W0):=⟨⟨W0,Below.refl _ _⟩⟩
 clear k0 k1 K0
 refine RX.wp_region_readers 11 [(1,0),(1,1),(1,2),(1,3),(1,5),(1,6),(1,7),(0,4),(2,8),(0,9),(0,10),(0,11)] (fun w'=>∃ p:BW W0,w'=p.w) (by kernel_rfl) (by kernel_rfl) ?_ ?_
 ·exact ⟨⟨{ W0 with drawn:=W0.drawn + 1 },⟨rfl,rfl,rfl,Nat.le_refl _,fun _ _=>rfl⟩⟩,rfl⟩
 iterate 7 (refine RX.walkR_read ?_; simp only [dsc_,dz_,tsc_,tz_]; go_big_quiet_step (fail); refine wpQuiet_nil ?_)
 clear q0 q1 hnon
 refine RX.walkR_move ?_
 simp only [dsc_,dz_,tsc_,tz_]
 go_wp2_with fail
 have W1:Hid (Below W0.heap.size W0 (W0.alloc (.cells #[.int .i64 1,.int .i64 2,.int .i64 3,.int .i64 4,.int .i64 6,.int .i64 12] 3)).drew):=((Below.refl W0.heap.size W0).alloc nr_ _).drew
 refine ⟨⟨⟨_,W1.out⟩,rfl⟩,?_⟩
 refine RX.walkR_any ?_
 simp only [dsc_,dz_,tsc_,tz_]
 go_big_quiet_step (fail)
 refine wpQuiet_nil ?_
 refine RX.walkR_move ?_
 simp only [dsc_,dz_,tsc_,tz_]
 go_wp2_with fail
 refine ⟨⟨⟨_,W1.out⟩,rfl⟩,?_⟩
 refine RX.walkR_move ?_
 simp only [dsc_,dz_,tsc_,tz_]
 simp only [Hx.out]
 go_wp2_with fail
 have B1:=Lib.hid (B0.out.trans (W1.out.mono B0.out.size))
 refine Calls.mono (HP.out _ B1.out) ?_
 rintro e w5 ⟨rfl,hb5⟩
 have W5:=Lib.hid (W1.out.trans (hb5.mono W1.out.size))
 have B5:=Lib.hid (B0.out.trans (W5.out.mono B0.out.size))
 have M5:=Lib.hid (heap_kept M0.out W5.out nr_)
 clear hb5 HP M0 B0 W1 B1
 go_wp2_with fail
 refine ⟨⟨⟨w5,W5.out⟩,rfl⟩,?_⟩
 obtain ⟨k0,k1,f0,f1⟩:=two_cells M5.out
 refine RX.walkR_move ?_
 simp only [dsc_,dz_,tsc_,tz_]
 go_wp2_with fail
 simp only [RX.walkR]
 obtain ⟨c0,c1,hb3⟩:=two_stored (B:=w.heap.size) (.string (itx q.num)) (.string (dec q.den)) k0 k1 (by omega) B5.out
 go_wp2
 exact bodyPost_ret (v := .agg #[.string (itx q.num),.string (dec q.den)]) (by simp [results,Tryz.results24,go_sem,c0,c1]) rfl ⟨rfl,hb3⟩
end Go.Proofs.YtlomhfknmhaboaaGreatDoor

namespace Go.Proofs.YtlomhfknmhaboaaGreatDoor
open Go.RowKit
def RdI (w:World) (a:Option Addr) (ls:List (List Int)):Prop :=
 ls=[]∨∃ b off,a=some ⟨b,off,none⟩∧b < w.heap.size∧∀ i,i < ls.length→∃ a' c',w.cell? ⟨b,off + i,none⟩=some (.slice a' (ls.getD i []).length c')∧Rd w a' (ints (ls.getD i []))
theorem RdI.below {w w':World} {a:Option Addr} {ls:List (List Int)} {B:Nat} (h:RdI w a ls) (hb:Below B w w') (hB:w.heap.size≤B):RdI w' a ls:=by
 rcases h with h | ⟨b,off,h1,h2,h3⟩
 ·exact .inl h
 ·refine .inr ⟨b,off,h1,Nat.lt_of_lt_of_le h2 hb.size,fun i hi=>?_⟩
  obtain ⟨a',c',h4,h5⟩:=h3 i hi
  exact ⟨a',c',by rw [hb.cell (p:=⟨b,off + i,none⟩) (by show b < B; omega)]; exact h4,h5.below hb hB⟩
end Go.Proofs.YtlomhfknmhaboaaGreatDoor

namespace Go.Proofs.YtlomhfknmhaboaaGreatDoor
open Go.RowKit
def GivesErr (f:FuncId) (args:Array Value) (w:World) (code:Int):Prop:=Gives Tryz.prog f args w (.tuple #[.slice none 0 0,.int .i64 code])
theorem OwnQ.lower {w:World} {B B' c:Nat} {a:Option Addr} {l:List Rat} (h:OwnQ w B a c l) (hb:B'≤B):OwnQ w B' a c l:=by
 exact ⟨h.1,h.2.imp id fun ⟨g,cap,cur,h1,h2,h3⟩=>⟨g,cap,cur,h1,Nat.le_trans hb h2,h3⟩⟩
theorem pcode_pos {ps:List Int} (h:pcode ps=0):0 < ps.length∧ps.length≤6:=by
 unfold pcode at h
 split at h
 ·cases h
 ·split at h
  ·cases h
  ·omega
end Go.Proofs.YtlomhfknmhaboaaGreatDoor

namespace Go.Proofs.YtlomhfknmhaboaaGreatDoor
open Go.RowKit
set_option maxHeartbeats 4000000 in
theorem tooLongR (w:World) (a:Rat):Gives Tryz.prog 102 #[fr a] w (.bool (!decide (shortQ a))):=by
 unfold Gives
 have Hs:Hid (∀ W,Gives Tryz.prog 103 #[fr a] W (.bool (decide (shortQ a)))):=fun W=>shortR W a
 unfold fr fv at Hs ⊢
 have B1:=Lib.hid ((Below.refl w.heap.size w).alloc nr_ (.cells #[.string (itx a.num),.string (dec a.den)] 30))
 generalize decide (shortQ a)=z at *
 go_enter Tryz.func102,Tryz.ntmps102
 go_wp2_with fail
 refine Calls.mono (Hs.out _) ?_
 rintro e w1 ⟨rfl,hb⟩
 have B2:=Lib.hid (B1.out.trans (hb.mono B1.out.size))
 clear hb
 go_wp2_with fail
 go_ret
 exact ⟨rfl,B2.out⟩
def shortAll (l:List Rat):Bool:=l.all fun q=>decide (shortQ q)
set_option maxRecDepth 100000 in
set_option maxHeartbeats 4000000 in
theorem index_long (w:World) (a:Option Addr) (c:Nat) (l:List Rat) (hr:Rd w a (cellsQ l)) (hl:l.length≤1000) :
  Calls Tryz.prog 130 #[.slice a l.length c,.func (.func 102) #[] #[]] w fun e w'=>∃ i:Int,e = .returned (.int .i64 i) ∧ -1≤i∧decide (0≤i) = !shortAll l∧Below w.heap.size w w':=by
 have Hr:=Lib.hid hr
 clear hr
 have Hall:Hid (∀ k,k≤l.length→(∀ j (h:j < l.length),j < k→decide (shortQ l[j])=true)→k=l.length→shortAll l=true):=fun k hk h hkl=>by
  unfold shortAll
  rw [List.all_eq_true]
  intro q hq
  obtain ⟨j,hj,rfl⟩:=List.mem_iff_getElem.1 hq
  exact h j hj (by omega)
 have Hone:Hid (∀ k (h:k < l.length),decide (shortQ l[k])=false→shortAll l=false):=fun k h hf=>by
  unfold shortAll
  rw [List.all_eq_false]
  exact ⟨l[k],List.getElem_mem h,by rw [hf]; decide⟩
 obtain ⟨m,hm⟩:∃ m,l.length=m:=⟨_,rfl⟩
 rw [hm] at hl ⊢
 have Hm:=Lib.hid hm
 clear hm
 generalize shortAll l=z at *
 go_enter Tryz.func130,Tryz.ntmps130
 go_wp2_with fail
 go_loopw [8] (fun i wr=>∃ k:Nat,k≤m∧i = .int .i64 k∧Hid (∀ j (h:j < l.length),j < k→decide (shortQ l[j])=true)∧Hid (Below w.heap.size w wr)) (fun i _=>m - (intOf i).toNat)
 case atStart=>exact ⟨0,Nat.zero_le _,rfl,fun j _ hj=>absurd hj (Nat.not_lt_zero _),Below.refl _ _⟩
 case round =>
  obtain ⟨k,hk,rfl,Hp,B⟩:=hrel
  by_cases hlt:k < m
  ·have hlt':(k:Int) < m:=by omega
   have hkb:k < l.length:=by rw [Hm.out]; exact hlt
   obtain ⟨b,off,rfl,hb,hcells⟩:=Hr.out.open (by rw [cellsQ_length,Hm.out]; omega)
   obtain ⟨x0,x1⟩:=cellsS_rd hcells k (by rw [List.length_map]; exact hkb)
   rw [← B.out.cell (p:=⟨b,off + k * 2,none⟩) hb,qs_getD _ k hkb] at x0
   rw [← B.out.cell (p:=⟨b,off + k * 2 + 1,none⟩) hb,qs_getD _ k hkb] at x1
   have Hc:Hid (Gives Tryz.prog 102 #[fr l[k]] wr (.bool (!decide (shortQ l[k])))):=tooLongR wr _
   unfold fr fv at Hc
   simp only [qs] at x0 x1
   clear hcells
   by_cases hs:decide (shortQ l[k])=true
   ·have Hp':Hid (∀ j (h:j < l.length),j < k + 1→decide (shortQ l[j])=true):=fun j h hj=>by
     rcases Nat.lt_or_ge j k with hh | hh
     ·exact Hp.out j h hh
     ·have e:j=k:=by omega
      subst e
      exact hs
    rw [hs] at Hc
    clear hs Hp
    generalize l[k]=x at *
    go_wp2_with fail
    refine Calls.mono Hc.out ?_
    rintro e w1 ⟨rfl,hb1⟩
    have B1:=Lib.hid (B.out.trans (hb1.mono B.out.size))
    clear hb1 Hc B x0 x1
    go_wp2_with fail
    go_roundw
    case rel=>exact ⟨k + 1,by omega,by go_num,Hp',B1⟩
    case measure=>simp [intOf]; omega
   ·have hs':decide (shortQ l[k])=false:=by simpa using hs
    have Hz:=Lib.hid (Hone.out k hkb hs')
    rw [hs'] at Hc
    clear hs hs' Hp
    generalize l[k]=x at *
    go_wp2_with fail
    refine Calls.mono Hc.out ?_
    rintro e w1 ⟨rfl,hb1⟩
    have B1:=Lib.hid (B.out.trans (hb1.mono B.out.size))
    clear hb1 Hc B x0 x1
    go_wp2_with fail
    go_ret
    exact ⟨k,rfl,by omega,by rw [Hz.out]; exact decide_eq_true (by omega),B1.out⟩
  ·have hlt':¬ (k:Int) < m:=by omega
   have Hz:=Lib.hid (Hall.out k (by rw [Hm.out]; exact hk) Hp.out (by rw [Hm.out]; omega))
   clear Hp
   go_wp2_with fail
   go_ret
   exact ⟨-1,rfl,by decide,by rw [Hz.out]; rfl,B.out⟩
set_option maxHeartbeats 4000000 in
theorem contains_long (w:World) (a:Option Addr) (c:Nat) (l:List Rat) (hr:Rd w a (cellsQ l)) (hl:l.length≤1000) :
  Gives Tryz.prog 101 #[.slice a l.length c,.func (.func 102) #[] #[]] w (.bool (!shortAll l)):=by
 unfold Gives
 have Hi:=Lib.hid (index_long w a c l hr hl)
 clear hr hl
 generalize shortAll l=z at *
 go_enter Tryz.func101,Tryz.ntmps101
 go_wp2_with fail
 refine Calls.mono Hi.out ?_
 rintro e w1 ⟨i,rfl,hi1,hi2,hb⟩
 have B:=Lib.hid hb
 have Hz:=Lib.hid hi2
 clear hb Hi hi2
 go_wp2_with fail
 go_ret
 exact ⟨by rw [← Hz.out]; rfl,B.out⟩
set_option maxHeartbeats 4000000 in
theorem result_fine (w:World) (a:Option Addr) (c:Nat) (l:List Rat) (hr:Rd w a (cellsQ l)) (hl:l.length≤1000) (hs:shortAll l=true) :
  Gives Tryz.prog 58 #[.slice a l.length c] w (.tuple #[.slice a l.length c,.int .i64 0]):=by
 unfold Gives
 have Hi:=Lib.hid (contains_long w a c l hr hl)
 rw [hs] at Hi
 clear hr hl hs
 go_enter Tryz.func58,Tryz.ntmps58
 go_wp2_with fail
 refine Calls.mono Hi.out ?_
 rintro e w1 ⟨rfl,hb⟩
 have B:=Lib.hid hb
 clear hb Hi
 go_wp2_with fail
 go_ret2
 exact ⟨rfl,B.out⟩
set_option maxHeartbeats 4000000 in
theorem result_long (w:World) (a:Option Addr) (c:Nat) (l:List Rat) (hr:Rd w a (cellsQ l)) (hl:l.length≤1000) (hs:shortAll l=false) :
  GivesErr 58 #[.slice a l.length c] w 4:=by
 unfold GivesErr Gives
 have Hi:=Lib.hid (contains_long w a c l hr hl)
 rw [hs] at Hi
 clear hr hl hs
 go_enter Tryz.func58,Tryz.ntmps58
 go_wp2_with fail
 refine Calls.mono Hi.out ?_
 rintro e w1 ⟨rfl,hb⟩
 have B:=Lib.hid hb
 clear hb Hi
 go_wp2_with fail
 go_ret2
 exact ⟨rfl,B.out⟩
open Classical in
noncomputable def wrongB (x:ByteArray×ByteArray):Bool := !decide (IsQ x.1 x.2)
open Classical in
noncomputable def rightAll (l:List (ByteArray×ByteArray)):Bool:=l.all fun x=>decide (IsQ x.1 x.2)
open Classical in
set_option maxHeartbeats 4000000 in
theorem wrongR (w:World) (s t:ByteArray) (hs:s.size≤10000000) (ht:t.size≤10000000) (L:Laid w):Gives Tryz.prog 57 #[.agg #[.string s,.string t]] w (.bool (wrongB (s,t))):=by
 have Hs:Hid (∃ z:Int,∀ W,Below w.heap.size w W→Gives Tryz.prog 14 #[.agg #[.string s,.string t]] W (.int .i64 z))∧True:=by
  refine ⟨?_,trivial⟩
  by_cases h:IsQ s t
  ·obtain ⟨q,rfl,rfl,hq⟩:=h
   exact ⟨0,fun W hW=>checkR W q hq (L.below hW)⟩
  ·exact ⟨2,fun W hW=>checkS_no W s t hs ht h (L.below hW)⟩
 have Hz:∃ z:Int,(z == 0) = !(wrongB (s,t))∧∀ W,Below w.heap.size w W→Gives Tryz.prog 14 #[.agg #[.string s,.string t]] W (.int .i64 z):=by
  by_cases h:IsQ s t
  ·refine ⟨0,by unfold wrongB; rw [decide_eq_true h]; rfl,?_⟩
   obtain ⟨q,rfl,rfl,hq⟩:=h
   exact fun W hW=>checkR W q hq (L.below hW)
  ·exact ⟨2,by unfold wrongB; rw [decide_eq_false h]; rfl,fun W hW=>checkS_no W s t hs ht h (L.below hW)⟩
 obtain ⟨z,hz,hc⟩:=Hz
 have Hc:=Lib.hid hc
 clear Hs hc hs ht L
 unfold Gives
 generalize wrongB (s,t)=b at *
 have B1:=Lib.hid ((Below.refl w.heap.size w).alloc nr_ (.cells #[.string s,.string t] 30))
 go_enter Tryz.func57,Tryz.ntmps57
 go_wp2_with fail
 refine Calls.mono (Hc.out _ B1.out) ?_
 rintro e w1 ⟨rfl,hb⟩
 have B2:=Lib.hid (B1.out.trans (hb.mono B1.out.size))
 have Hz:=Lib.hid hz
 clear hb hz
 go_wp2_with fail
 go_ret
 refine ⟨?_,B2.out⟩
 have:=Hz.out
 cases b
 ·have h1:(z == 0)=true:=this
  have h2:z=0:=by simpa using h1
  subst h2; rfl
 ·have h1:(z == 0)=false:=this
  have h2:z≠0:=by simpa using h1
  show Ending.returned (Value.bool _)=_
  first | rfl | (simp [h2])
end Go.Proofs.YtlomhfknmhaboaaGreatDoor

namespace Go.Proofs.YtlomhfknmhaboaaGreatDoor
open Go.RowKit
set_option maxRecDepth 100000 in
set_option maxHeartbeats 4000000 in
theorem index_wrong (w:World) (a:Option Addr) (c:Nat) (l:Pairs) (hr:Rd w a (cellsS l)) (hl:l.length≤1000) (hs:Ssz l) (L:Laid w) :
  Calls Tryz.prog 100 #[.slice a l.length c,.func (.func 57) #[] #[]] w fun e w'=>∃ i:Int,e = .returned (.int .i64 i) ∧ -1≤i∧decide (0≤i) = !rightAll l∧Below w.heap.size w w':=by
 have Hr:=Lib.hid hr
 have Hs:=Lib.hid hs
 have HL:=Lib.hid L
 clear hr hs L
 have Hall:Hid (∀ k,k≤l.length→(∀ j (h:j < l.length),j < k→wrongB l[j]=false)→k=l.length→rightAll l=true):=fun k hk h hkl=>by
  unfold rightAll
  rw [List.all_eq_true]
  intro q hq
  obtain ⟨j,hj,rfl⟩:=List.mem_iff_getElem.1 hq
  have:=h j hj (by omega)
  unfold wrongB at this
  simpa using this
 have Hone:Hid (∀ k (h:k < l.length),wrongB l[k]=true→rightAll l=false):=fun k h hf=>by
  unfold rightAll
  rw [List.all_eq_false]
  unfold wrongB at hf
  exact ⟨l[k],List.getElem_mem h,by simpa using hf⟩
 obtain ⟨m,hm⟩:∃ m,l.length=m:=⟨_,rfl⟩
 rw [hm] at hl ⊢
 have Hm:=Lib.hid hm
 clear hm
 generalize rightAll l=z at *
 go_enter Tryz.func100,Tryz.ntmps100
 go_wp2_with fail
 go_loopw [8] (fun i wr=>∃ k:Nat,k≤m∧i = .int .i64 k∧Hid (∀ j (h:j < l.length),j < k→wrongB l[j]=false)∧Hid (Below w.heap.size w wr)) (fun i _=>m - (intOf i).toNat)
 case atStart=>exact ⟨0,Nat.zero_le _,rfl,fun j _ hj=>absurd hj (Nat.not_lt_zero _),Below.refl _ _⟩
 case round =>
  obtain ⟨k,hk,rfl,Hp,B⟩:=hrel
  by_cases hlt:k < m
  ·have hlt':(k:Int) < m:=by omega
   have hkb:k < l.length:=by rw [Hm.out]; exact hlt
   obtain ⟨b,off,rfl,hb,hcells⟩:=Hr.out.open (by rw [cellsS_length,Hm.out]; omega)
   obtain ⟨x0,x1⟩:=cellsS_rd hcells k hkb
   rw [← B.out.cell (p:=⟨b,off + k * 2,none⟩) hb,show l.getD k default=l[k] by rw [List.getD_eq_getElem?_getD,List.getElem?_eq_getElem hkb]; rfl] at x0
   rw [← B.out.cell (p:=⟨b,off + k * 2 + 1,none⟩) hb,show l.getD k default=l[k] by rw [List.getD_eq_getElem?_getD,List.getElem?_eq_getElem hkb]; rfl] at x1
   have hsz:=Hs.out _ (List.getElem_mem hkb)
   have Hc:Hid (Gives Tryz.prog 57 #[.agg #[.string l[k].1,.string l[k].2]] wr (.bool (wrongB l[k]))):=wrongR wr _ _ (by omega) (by omega) (HL.out.below B.out)
   clear hcells hsz
   by_cases hs:wrongB l[k]=false
   ·have Hp':Hid (∀ j (h:j < l.length),j < k + 1→wrongB l[j]=false):=fun j h hj=>by
     rcases Nat.lt_or_ge j k with hh | hh
     ·exact Hp.out j h hh
     ·have e:j=k:=by omega
      subst e
      exact hs
    rw [hs] at Hc
    clear hs Hp
    generalize l[k]=x at *
    go_wp2_with fail
    refine Calls.mono Hc.out ?_
    rintro e w1 ⟨rfl,hb1⟩
    have B1:=Lib.hid (B.out.trans (hb1.mono B.out.size))
    clear hb1 Hc B x0 x1
    go_wp2_with fail
    go_roundw
    case rel=>exact ⟨k + 1,by omega,by go_num,Hp',B1⟩
    case measure=>simp [intOf]; omega
   ·have hs':wrongB l[k]=true:=by simpa using hs
    have Hz:=Lib.hid (Hone.out k hkb hs')
    rw [hs'] at Hc
    clear hs hs' Hp
    generalize l[k]=x at *
    go_wp2_with fail
    refine Calls.mono Hc.out ?_
    rintro e w1 ⟨rfl,hb1⟩
    have B1:=Lib.hid (B.out.trans (hb1.mono B.out.size))
    clear hb1 Hc B x0 x1
    go_wp2_with fail
    go_ret
    exact ⟨k,rfl,by omega,by rw [Hz.out]; exact decide_eq_true (by omega),B1.out⟩
  ·have hlt':¬ (k:Int) < m:=by omega
   have Hz:=Lib.hid (Hall.out k (by rw [Hm.out]; exact hk) Hp.out (by rw [Hm.out]; omega))
   clear Hp
   go_wp2_with fail
   go_ret
   exact ⟨-1,rfl,by decide,by rw [Hz.out]; rfl,B.out⟩
set_option maxHeartbeats 4000000 in
theorem contains_wrong (w:World) (a:Option Addr) (c:Nat) (l:Pairs) (hr:Rd w a (cellsS l)) (hl:l.length≤1000) (hs:Ssz l) (L:Laid w) :
  Gives Tryz.prog 56 #[.slice a l.length c,.func (.func 57) #[] #[]] w (.bool (!rightAll l)):=by
 unfold Gives
 have Hi:=Lib.hid (index_wrong w a c l hr hl hs L)
 clear hr hl hs L
 generalize rightAll l=z at *
 go_enter Tryz.func56,Tryz.ntmps56
 go_wp2_with fail
 refine Calls.mono Hi.out ?_
 rintro e w1 ⟨i,rfl,hi1,hi2,hb⟩
 have B:=Lib.hid hb
 have Hz:=Lib.hid hi2
 clear hb Hi hi2
 go_wp2_with fail
 go_ret
 exact ⟨by rw [← Hz.out]; rfl,B.out⟩
theorem lgo_ok (n:Nat):∀ ls:List (List Rat),(∀ l∈ls,l.length=n∧∀ q∈l,Sm 30 q)→lgo n (ls.map (List.map qs))=0
 | [],_=>rfl
 | l :: ls,h=>by
  have h1:=h l List.mem_cons_self
  rw [List.map_cons,lgo,if_pos (scode_ok h1.2 h1.1)]
  exact lgo_ok n ls fun m hm=>h m (List.mem_cons_of_mem _ hm)
theorem lcode_ok {ps:List Int} (hp:pcode ps=0) {ls:List (List Rat)} (h:∀ l∈ls,l.length=ps.length∧∀ q∈l,Sm 30 q):lcode ps (ls.map (List.map qs))=0:=by
 unfold lcode
 rw [if_pos hp]
 exact lgo_ok _ ls h
open Classical in
theorem rightAll_qs (l:List Rat) (h:∀ q∈l,Sm 400 q):rightAll (l.map qs)=true:=by
 unfold rightAll
 rw [List.all_eq_true]
 intro x hx
 obtain ⟨q,hq,rfl⟩:=List.mem_map.1 hx
 exact decide_eq_true ⟨q,rfl,rfl,h q hq⟩
def GivesSum (f:FuncId) (args:Array Value) (w:World) (l:List Rat):Prop:=if shortAll l=true then
  Calls Tryz.prog f args w fun e w'=>∃ a c,e = .returned (.tuple #[.slice a l.length c,.int .i64 0])∧Rd w' a (cellsQ l)∧Below w.heap.size w w'
 else GivesErr f args w 4
set_option maxRecDepth 100000 in
set_option maxHeartbeats 8000000 in
theorem combine_fine (w:World) (a0 a1 a2:Option Addr) (c0 c1 c2:Nat) (ps:List Int) (ls:List (List Rat)) (fs:List Rat) (rp:Rd w a0 (ints ps)) (hi:I64s ps) (hp:pcode ps=0) (rl:RdL w a1 (ls.map (List.map qs))) (hl:ls.length≤100)
  (h:∀ l∈ls,l.length=ps.length∧∀ q∈l,Sm 30 q) (rf:Rd w a2 (cellsQ fs)) (hf:fs.length=ls.length) (hfs:∀ q∈fs,Sm 400 q) (L:Laid w) :
  GivesSum 16 #[.slice a0 ps.length c0,.slice a1 ls.length c1,.slice a2 fs.length c2] w (sumQ ps.length ls fs):=by
 have hn:=pcode_pos hp
 have H1:=Lib.hid (checkAll_any w a0 a1 c0 c1 ps (ls.map (List.map qs)) rp hi (by omega) rl (by rw [List.length_map]; omega) (by
  intro l hl'
  obtain ⟨m,hm,rfl⟩:=List.mem_map.1 hl'
  exact ⟨by rw [List.length_map,(h m hm).1]; omega,ssz_ok (h m hm).2⟩) L)
 rw [lcode_ok hp h,List.length_map] at H1
 have H2:Hid (∀ W,Below w.heap.size w W→Gives Tryz.prog 56 #[.slice a2 fs.length c2,.func (.func 57) #[] #[]] W (.bool false)):=fun W hW=>by
  have:=contains_wrong W a2 c2 (fs.map qs) (rf.below hW nr_) (by rw [List.length_map]; omega) (fun x hx=>by
   obtain ⟨q,hq,rfl⟩:=List.mem_map.1 hx
   have h1:=itx_size q.num 400 (by decide) (hfs q hq).1
   have h2:=(size_lt q.den 400 (by decide)).2 (hfs q hq).2
   exact ⟨by show (itx q.num).size≤_; omega,by show (dec q.den).size≤_; omega⟩) (L.below hW)
  rw [rightAll_qs fs hfs,List.length_map] at this
  exact this
 have H3:Hid (∀ W,Below w.heap.size w W→GivesQ 59 #[.int .i64 ps.length,.slice a1 ls.length c1,.slice a2 fs.length c2] W (sumQ ps.length ls fs)):=fun W hW =>
  sum_any W a1 a2 c1 c2 ps.length ls fs 30 400 (rl.below hW nr_) (rf.below hW nr_) (fun l hl'=>(h l hl').1) hf (fun l hl'=>(h l hl').2) hfs (by omega) (by omega) (by
   have:(ls.length + 1) * (30 + 400 + 1)≤101 * (30 + 400 + 1):=Nat.mul_le_mul_right _ (by omega)
   omega) (L.below hW)
 have hsl:=sumQ_length ps.length ls fs (fun l hl'=>(h l hl').1) hf
 have H4:Hid (∀ W a c,Rd W a (cellsQ (sumQ ps.length ls fs))→shortAll (sumQ ps.length ls fs)=true→Gives Tryz.prog 58 #[.slice a (sumQ ps.length ls fs).length c] W (.tuple #[.slice a (sumQ ps.length ls fs).length c,.int .i64 0])):=fun W a c hr hs=>result_fine W a c _ hr (by omega) hs
 have H5:Hid (∀ W a c,Rd W a (cellsQ (sumQ ps.length ls fs))→shortAll (sumQ ps.length ls fs)=false→Gives Tryz.prog 58 #[.slice a (sumQ ps.length ls fs).length c] W (.tuple #[.slice none 0 0,.int .i64 4])):=fun W a c hr hs=>result_long W a c _ hr (by omega) hs
 unfold GivesQ at H3
 clear rp hi hp rl hl h rf hfs L hn hsl
 rw [hf] at *
 generalize sumQ ps.length ls fs=S at *
 generalize ps.length=n at *
 generalize ls.length=k at *
 unfold GivesSum GivesErr Gives
 by_cases hs:shortAll S=true
 ·rw [if_pos hs]
  have Hs:=Lib.hid hs
  clear H5 hs
  go_enter Tryz.func16,Tryz.ntmps16
  go_wp2_with fail
  refine Calls.mono H1.out ?_
  rintro e w1 ⟨rfl,hb1⟩
  have Hb1:=Lib.hid hb1
  clear hb1 H1
  go_wp2_with fail
  refine Calls.mono (H2.out _ Hb1.out) ?_
  rintro e w2 ⟨rfl,hb2⟩
  have Hb2:=Lib.hid (Hb1.out.trans (hb2.mono Hb1.out.size))
  clear hb2 H2 Hb1
  go_wp2_with fail
  refine Calls.mono (H3.out _ Hb2.out) ?_
  rintro e w3 ⟨a,c,rfl,ho,hb3⟩
  have Hb3:=Lib.hid (Hb2.out.trans (hb3.mono Hb2.out.size))
  have Hr:=Lib.hid ho.rd
  clear hb3 H3 Hb2 ho
  go_wp2_with fail
  refine Calls.mono (H4.out _ _ _ Hr.out Hs.out) ?_
  rintro e w4 ⟨rfl,hb4⟩
  have Hb4:=Lib.hid (Hb3.out.trans (hb4.mono Hb3.out.size))
  have Hr4:=Lib.hid (Hr.out.below hb4 nr_)
  clear hb4 H4 Hb3 Hr
  go_wp2_with fail
  go_ret2
  exact ⟨a,c,rfl,Hr4.out,Hb4.out⟩
 ·rw [if_neg hs]
  have Hs:Hid (shortAll S=false):=by show _=_; simpa using hs
  clear H4 hs
  go_enter Tryz.func16,Tryz.ntmps16
  go_wp2_with fail
  refine Calls.mono H1.out ?_
  rintro e w1 ⟨rfl,hb1⟩
  have Hb1:=Lib.hid hb1
  clear hb1 H1
  go_wp2_with fail
  refine Calls.mono (H2.out _ Hb1.out) ?_
  rintro e w2 ⟨rfl,hb2⟩
  have Hb2:=Lib.hid (Hb1.out.trans (hb2.mono Hb1.out.size))
  clear hb2 H2 Hb1
  go_wp2_with fail
  refine Calls.mono (H3.out _ Hb2.out) ?_
  rintro e w3 ⟨a,c,rfl,ho,hb3⟩
  have Hb3:=Lib.hid (Hb2.out.trans (hb3.mono Hb2.out.size))
  have Hr:=Lib.hid ho.rd
  clear hb3 H3 Hb2 ho
  go_wp2_with fail
  refine Calls.mono (H5.out _ _ _ Hr.out Hs.out) ?_
  rintro e w4 ⟨rfl,hb4⟩
  have Hb4:=Lib.hid (Hb3.out.trans (hb4.mono Hb3.out.size))
  clear hb4 H5 Hb3 Hr
  go_wp2_with fail
  go_ret2
  exact ⟨rfl,Hb4.out⟩
end Go.Proofs.YtlomhfknmhaboaaGreatDoor

namespace Go.Proofs.YtlomhfknmhaboaaGreatDoor
open Go.RowKit
set_option maxHeartbeats 4000000 in
theorem digits_any (w:World) (s:ByteArray):Gives Tryz.prog 62 #[.string s] w (.int .i64 s.size):=by
 unfold Gives
 go_enter Tryz.func62,Tryz.ntmps62
 go_wp2_with fail
 go_ret
 exact ⟨rfl,Below.refl _ _⟩
theorem short_iff (q:Rat):decide (shortQ q)=(decide (((dec q.num.natAbs).size:Int)≤30) && decide (((dec q.den).size:Int)≤30)):=by
 rw [← Bool.decide_and,decide_eq_decide]
 unfold shortQ
 rw [← size_lt _ _ (by decide),← size_lt _ _ (by decide)]
 omega
set_option maxHeartbeats 8000000 in
theorem lshort_any (w:World) (q:Rat):Gives Tryz.prog 19 #[fr q] w (.bool (decide (shortQ q))):=by
 unfold Gives
 rw [short_iff q]
 have Ha:=Lib.hid (fun W=>abs_any W q.num)
 have Hd1:=Lib.hid (fun W=>digits_any W (dec q.num.natAbs))
 have Hd2:=Lib.hid (fun W=>digits_any W (dec q.den))
 unfold fr fv
 have B0:=Lib.hid ((Below.refl w.heap.size w).alloc nr_ (.cells #[.string (itx q.num),.string (dec q.den)] 30))
 have N0:=Lib.hid (heap_at w #[.string (itx q.num),.string (dec q.den)] 30 _ rfl)
 generalize itx q.num=s at *
 generalize dec q.num.natAbs=s1 at *
 generalize dec q.den=t at *
 by_cases h1:(s1.size:Int)≤30
 ·rw [decide_eq_true h1,Bool.true_and]
  obtain ⟨z,hz⟩:∃ z,decide ((t.size:Int)≤30)=z:=⟨_,rfl⟩
  rw [hz]
  go_enter Tryz.func19,Tryz.ntmps19
  obtain ⟨k0,k1,-,-⟩:=two_cells N0.out
  go_wp2_with fail
  generalize w.alloc (.cells #[.string s,.string t] 30)=W0 at *
  clear k0 k1
  refine Calls.mono (Ha.out _) ?_
  rintro e w1 ⟨rfl,hb1⟩
  have B1:=Lib.hid (B0.out.trans (hb1.mono B0.out.size))
  have N1:=Lib.hid (heap_kept N0.out hb1 nr_)
  clear hb1 Ha B0 N0
  go_wp2_with fail
  refine Calls.mono (Hd1.out _) ?_
  rintro e w2 ⟨rfl,hb2⟩
  have B2:=Lib.hid (B1.out.trans (hb2.mono B1.out.size))
  have N2:=Lib.hid (heap_kept N1.out hb2 nr_)
  clear hb2 Hd1 B1 N1
  obtain ⟨k0,k1,-,-⟩:=two_cells N2.out
  go_wp2_with fail
  refine Calls.mono (Hd2.out _) ?_
  rintro e w3 ⟨rfl,hb3⟩
  have B3:=Lib.hid (B2.out.trans (hb3.mono B2.out.size))
  have Hz:=Lib.hid hz
  clear hb3 Hd2 B2 N2 k0 k1 hz
  go_wp2_with fail
  go_ret
  exact ⟨by rw [← Hz.out]; rfl,B3.out⟩
 ·rw [decide_eq_false h1,Bool.false_and]
  clear Hd2
  go_enter Tryz.func19,Tryz.ntmps19
  obtain ⟨k0,k1,-,-⟩:=two_cells N0.out
  go_wp2_with fail
  generalize w.alloc (.cells #[.string s,.string t] 30)=W0 at *
  clear k0 k1
  refine Calls.mono (Ha.out _) ?_
  rintro e w1 ⟨rfl,hb1⟩
  have B1:=Lib.hid (B0.out.trans (hb1.mono B0.out.size))
  clear hb1 Ha B0 N0
  go_wp2_with fail
  refine Calls.mono (Hd1.out _) ?_
  rintro e w2 ⟨rfl,hb2⟩
  have B2:=Lib.hid (B1.out.trans (hb2.mono B1.out.size))
  clear hb2 Hd1 B1
  go_wp2_with fail
  go_ret
  exact ⟨rfl,B2.out⟩
set_option maxRecDepth 100000 in
set_option maxHeartbeats 8000000 in
theorem equal_any (w:World) (a1 a2:Option Addr) (c1 c2:Nat) (la lb:List Rat) (r1:Rd w a1 (cellsQ la)) (r2:Rd w a2 (cellsQ lb)) (hbig:la.length≤1000000) :
  Gives Tryz.prog 20 #[.slice a1 la.length c1,.slice a2 lb.length c2] w (.bool (decide (la=lb))):=by
 unfold Gives
 by_cases hl:la.length=lb.length
 ·have R1:=Lib.hid r1
  have R2:=Lib.hid r2
  have Hyes:Hid (∀ k,(∀ j (h1:j < la.length) (h2:j < lb.length),j < k→la[j]=lb[j])→k=la.length→la=lb):=fun k h hk=>List.ext_getElem hl fun i h1 h2=>h i h1 h2 (by omega)
  have Hno:Hid (∀ k (h1:k < la.length) (h2:k < lb.length),la[k]≠lb[k]→¬ la=lb):=fun k h1 h2 hne he=>hne (by subst he; rfl)
  obtain ⟨n,hn⟩:∃ n,la.length=n:=⟨_,rfl⟩
  have hm:lb.length=n:=hl.symm.trans hn
  rw [hn] at hbig
  rw [hn,hm]
  have Hn:=Lib.hid hn
  have Hm:=Lib.hid hm
  clear hl r1 r2 hn hm
  go_enter Tryz.func20,Tryz.ntmps20
  go_wp2_with fail
  go_loopw [5] (fun i wr=>∃ k:Nat,k≤n∧i = .int .i64 k∧Hid (∀ j (h1:j < la.length) (h2:j < lb.length),j < k→la[j]=lb[j])∧Hid (Below w.heap.size w wr)) (fun i _=>n - (intOf i).toNat)
  case atStart=>exact ⟨0,Nat.zero_le _,rfl,fun j _ _ hj=>absurd hj (Nat.not_lt_zero _),Below.refl _ _⟩
  case round =>
   obtain ⟨k,hk,rfl,Hp,B⟩:=hrel
   by_cases hlt:k < n
   ·have hlt':(k:Int) < n:=by omega
    have h1:k < la.length:=by rw [Hn.out]; exact hlt
    have h2:k < lb.length:=by rw [Hm.out]; exact hlt
    obtain ⟨b,off,rfl,hb,hcells⟩:=R1.out.open (by rw [cellsQ_length]; omega)
    obtain ⟨x0,x1⟩:=cellsS_rd hcells k (by rw [List.length_map]; exact h1)
    rw [← B.out.cell (p:=⟨b,off + k * 2,none⟩) hb,qs_getD _ k h1] at x0
    rw [← B.out.cell (p:=⟨b,off + k * 2 + 1,none⟩) hb,qs_getD _ k h1] at x1
    obtain ⟨b',off',rfl,hb',hcells'⟩:=R2.out.open (by rw [cellsQ_length]; omega)
    obtain ⟨y0,y1⟩:=cellsS_rd hcells' k (by rw [List.length_map]; exact h2)
    rw [← B.out.cell (p:=⟨b',off' + k * 2,none⟩) hb',qs_getD _ k h2] at y0
    rw [← B.out.cell (p:=⟨b',off' + k * 2 + 1,none⟩) hb',qs_getD _ k h2] at y1
    have Hp':Hid (la[k]=lb[k]→∀ j (h1:j < la.length) (h2:j < lb.length),j < k + 1→la[j]=lb[j]):=fun he j g1 g2 hj=>by
     rcases Nat.lt_or_ge j k with h | h
     ·exact Hp.out j g1 g2 h
     ·have e:j=k:=by omega
      subst e; exact he
    have Hnk:=Lib.hid (Hno.out k h1 h2)
    clear hcells hcells' Hp
    simp only [qs] at x0 x1 y0 y1
    generalize la[k]=p at *
    generalize lb[k]=q at *
    have q0:=cell_regrown x0
    have q1:=cell_regrown x1
    have q2:=cell_regrown y0
    have q3:=cell_regrown y1
    have HK:=Lib.hid hlt
    go_wp2_with fail
    clear x0 x1 y0 y1
    refine wp_region_quiet_below (by kernel_rfl) (by kernel_rfl) ?_
    repeat (first | go_big_quiet_step (fail) | quiet_step (fail))
    refine BigFrame.wpQuiet_want rfl fun K hK=>quiet_neqQ _ _ _ p q rfl rfl rfl (hK _ ?_)
    refine wpQuiet_nil ?_
    intro w6 hw6
    obtain ⟨⟨dq,osq⟩,rfl⟩:=hw6
    have B6:=Lib.hid (B.out.trans ((below_regrown wr dq osq).mono B.out.size))
    clear q0 q1 q2 q3 B
    generalize Go.Sort.grow (redrawn wr dq) osq=w6 at *
    by_cases hpq:p=q
    ·rw [decide_eq_true hpq]
     have Hq:=Lib.hid (Hp'.out hpq)
     clear hpq Hp' Hnk
     go_wp2_with fail
     go_roundw
     case rel=>exact ⟨k + 1,HK.out,by go_num,Hq,B6⟩
     case measure=>simp [intOf]; omega
    ·rw [decide_eq_false hpq]
     have Hz:Hid (decide (la=lb)=false):=decide_eq_false (Hnk.out hpq)
     clear hpq Hp' Hnk
     go_wp2_with fail
     go_ret
     exact ⟨by rw [Hz.out]; rfl,B6.out⟩
   ·have hlt':¬ (k:Int) < n:=by omega
    have Hz:Hid (decide (la=lb)=true):=decide_eq_true (Hyes.out k Hp.out (by rw [Hn.out]; omega))
    clear Hp
    go_wp2_with fail
    go_ret
    exact ⟨by rw [Hz.out]; rfl,B.out⟩
 ·have Hz:Hid (decide (la=lb)=false):=decide_eq_false fun h=>hl (by rw [h])
  have hne:((la.length:Int) == lb.length)=false:=by rw [beq_eq_false_iff_ne]; omega
  clear r1 r2 hl
  generalize la.length=n at *
  generalize lb.length=m at *
  go_enter Tryz.func20,Tryz.ntmps20
  go_wp2_with fail
  go_ret
  exact ⟨by rw [Hz.out]; rfl,Below.refl _ _⟩
end Go.Proofs.YtlomhfknmhaboaaGreatDoor

namespace Go.Proofs.YtlomhfknmhaboaaGreatDoor.RT
open Go Go.Sort Go.Proofs.YtlomhfknmhaboaaGreatDoor Go.Proofs.YtlomhfknmhaboaaGreatDoor.RX
section
variable {P:Program} {ops:Array Oper} {md:Region.Mode} {C:World→Prop}
inductive RTree where
 | nil:RTree
 | rd:Nat→Nat→RTree→RTree
 | mv:Nat→RTree→RTree
 | two:Nat→Nat→RTree→RTree→RTree
def RTree.len:RTree→Nat
 | .nil=>0
 | .rd _ _ t=>t.len + 1
 | .mv _ t=>t.len + 1
 | .two _ _ t _=>t.len + 1
def ordT (md:Region.Mode) (ops:Array Oper) (s:Nat):RTree→Array Bool→Bool
 | .nil,listed=>(Region.ready md ops listed).isEmpty
 | .rd k i t,listed =>
  ((Region.ready md ops listed).contains i && Region.free md ops listed i && (match ops[i]? with | some o=>noEnter o.op | none=>false) && decide (i≠s) && (k == 2 || reachB md ops 4 s i)) &&
  ordT md ops s t (listed.setIfInBounds i true)
 | .mv i t,listed=>decide (Region.ready md ops listed=[i]) && ordT md ops s t (listed.setIfInBounds i true)
 | .two i j t u,listed=>(decide (Region.ready md ops listed=[i,j]) && decide (t.len=u.len)) && (ordT md ops s t (listed.setIfInBounds i true) && ordT md ops s u (listed.setIfInBounds j true))
def walkT (P:Program) (ops:Array Oper) (C:World→Prop) (s:Nat) (Q:Act→World→Prop):RTree→Bool→Act→World→Prop
 | .nil,_,a,w=>Q a w
 | .rd k i t,b,a,w=>if k=2 then wpQuiet P ops (fun _=>True) (fun a'=>walkT P ops C s Q t b a' w) (ops[i]?).toList a else wpQuiet P ops C (fun a'=>walkT P ops C s Q t b a' w) (ops[i]?).toList a
 | .mv i t,b,a,w=>wpList P ops (fun e a' w'=>e = .normal∧((b || i == s)=true∨C w')∧walkT P ops C s Q t (b || i == s) a' w') (ops[i]?).toList a w
 | .two i j t u,b,a,w =>
  wpList P ops (fun e a' w'=>e = .normal∧((b || i == s)=true∨C w')∧walkT P ops C s Q t (b || i == s) a' w') (ops[i]?).toList a w ∧
  wpList P ops (fun e a' w'=>e = .normal∧((b || j == s)=true∨C w')∧walkT P ops C s Q u (b || j == s) a' w') (ops[j]?).toList a w
theorem set_getD {s i:Nat} {listed:Array Bool} (inv:RInv md ops listed) (hr:i∈Region.ready md ops listed):(listed.setIfInBounds i true).getD s false=(listed.getD s false || i == s):=by
 by_cases his:i=s
 ·subst his
  obtain ⟨hun,o,ho,_⟩:=mem_ready.1 hr
  have hlt:i < listed.size:=by rw [inv.size]; exact (Array.getElem?_eq_some_iff.1 ho).1
  simp [hlt]
 ·rw [getD_set_ne false his]
  simp [his]
theorem step_mv {s j:Nat} {K:Act→World→Prop} {listed:Array Bool} {a:Act} {w:World} (inv:RInv md ops listed) (hr:j∈Region.ready md ops listed)
  (h:wpList P ops (fun e a' w'=>e = .normal∧((listed.getD s false || j == s)=true∨C w')∧K a' w') (ops[j]?).toList a w) :
  wpOp P ops (fun _ _ _=>False) j (fun a' w'=>safeW C s (listed.setIfInBounds j true) w'∧K a' w') a w:=by
 obtain ⟨hun,o,ho,_⟩:=mem_ready.1 hr
 simp only [ho,Option.toList] at h
 have h2:wpOp P ops (fun e a' w'=>e = .normal∧((listed.getD s false || j == s)=true∨C w')∧K a' w') j (fun a' w'=>((listed.getD s false || j == s)=true∨C w')∧K a' w') a w:=by
  unfold wpOp
  simp only [ho]
  simp only [wpList,true_and] at h
  exact h
 have h3:=wpOp_strong (fun e a' w' hq=>hq.1) h2
 refine wpOp_mono (fun a' w' h4=>⟨?_,h4.2⟩) h3
 unfold safeW
 rw [set_getD inv hr]
 exact h4.1
theorem anyR_tree {s:Nat} {Q:Act→World→Prop} (hsel:Region.noSelect ops=true) :
  ∀ (l:RTree) (listed:Array Bool) (a:Act) (w:World),RInv md ops listed→safeW C s listed w→ordT md ops s l listed=true →
   walkT P ops C s Q l (listed.getD s false) a w→anyR P md ops C s Q l.len listed a w
 | .nil,listed,a,w,_,_,hB,h=>⟨by simpa [ordT] using hB,h⟩
 | .mv i t,listed,a,w,inv,hs,hB,h=>by
  simp only [ordT,Bool.and_eq_true,decide_eq_true_eq] at hB
  obtain ⟨hB1,hB2⟩:=hB
  have hr:i∈Region.ready md ops listed:=by rw [hB1]; exact List.mem_singleton.2 rfl
  refine ⟨by rw [hB1]; simp,fun j hj=>?_⟩
  rw [hB1] at hj
  obtain rfl:=List.mem_singleton.1 hj
  refine wpOp_mono (fun a' w' h4=>⟨h4.1,anyR_tree hsel t _ a' w' (inv.set hr) h4.1 hB2 ?_⟩) (step_mv inv hr h)
  rw [set_getD inv hr]
  exact h4.2
 | .two i k t u,listed,a,w,inv,hs,hB,h=>by
  simp only [ordT,Bool.and_eq_true,decide_eq_true_eq] at hB
  obtain ⟨⟨hB1,hlen⟩,hB2,hB3⟩:=hB
  have hr:i∈Region.ready md ops listed:=by rw [hB1]; simp
  have hr2:k∈Region.ready md ops listed:=by rw [hB1]; simp
  refine ⟨by rw [hB1]; simp,fun j hj=>?_⟩
  rw [hB1] at hj
  simp only [List.mem_cons,List.not_mem_nil,or_false] at hj
  by_cases hji:j=i
  ·subst hji
   refine wpOp_mono (fun a' w' h4=>⟨h4.1,anyR_tree hsel t _ a' w' (inv.set hr) h4.1 hB2 ?_⟩) (step_mv inv hr h.1)
   rw [set_getD inv hr]
   exact h4.2
  ·have hjk:j=k:=hj.resolve_left hji
   subst hjk
   have:=wpOp_mono (fun a' w' (h4:safeW C s (listed.setIfInBounds j true) w'∧walkT P ops C s Q u (listed.getD s false || j == s) a' w')=>(⟨h4.1,anyR_tree hsel u _ a' w' (inv.set hr2) h4.1 hB3 (by rw [set_getD inv hr2]; exact h4.2)⟩:safeW C s (listed.setIfInBounds j true) w'∧anyR P md ops C s Q u.len (listed.setIfInBounds j true) a' w')) (step_mv inv hr2 h.2)
   rw [← hlen] at this
   exact this
 | .rd k i t,listed,a,w,inv,hs,hB,h=>by
  simp only [ordT,Bool.and_eq_true] at hB
  obtain ⟨hB1,hB2⟩:=hB
  simp only [decide_eq_true_eq,Bool.or_eq_true,beq_iff_eq] at hB1
  obtain ⟨⟨⟨⟨hr,hf⟩,hne⟩,his⟩,hw⟩:=hB1
  have hr':i∈Region.ready md ops listed:=by simpa using hr
  obtain ⟨_,o,ho,_⟩:=mem_ready.1 hr'
  have hne':noEnter o.op=true:=by rw [ho] at hne; exact hne
  have hgs:(listed.setIfInBounds i true).getD s false=listed.getD s false:=getD_set_ne false his
  have hs2:safeW C s (listed.setIfInBounds i true) w:=by unfold safeW; rw [hgs]; exact hs
  simp only [walkT] at h
  have hread:∃ v,ReadsIn P ops md C s i o v a∧walkT P ops C s Q t (listed.getD s false) (a.put o.dst v) w:=by
   by_cases h2:k=2
   ·rw [if_pos h2] at h
    obtain ⟨v,hy,hK⟩:=yieldsIn_of_qOp ho (qOp_of_list ho h)
    exact ⟨v,.inr hy,hK⟩
   ·rw [if_neg h2] at h
    obtain ⟨v,hy,hK⟩:=yieldsIn_of_qOp ho (qOp_of_list ho h)
    exact ⟨v,.inl ⟨hw.resolve_left h2,hy⟩,hK⟩
  obtain ⟨v,hy,hK⟩:=hread
  exact anyR_first ho his hne' (Region.noSelect_spec hsel) t.len listed a w inv (Region.free_spec ho hf) hr' hy hs
   (anyR_tree hsel t _ _ w (inv.set hr') hs2 hB2 (by rw [hgs]; exact hK))
theorem walkT_read {s i:Nat} {Q:Act→World→Prop} {l:RTree} {b:Bool} {a:Act} {w:World} {lo:List Oper} (h:wpQuiet P lo.toArray C (fun a'=>walkT P lo.toArray C s Q l b a' w) ((lo.drop i).take 1) a):walkT P lo.toArray C s Q (.rd 1 i l) b a w:=by
 simp only [walkT,pick_one]
 exact h
theorem walkT_move {s i:Nat} {Q:Act→World→Prop} {l:RTree} {b:Bool} {a:Act} {w:World} {lo:List Oper}
  (h:wpList P lo.toArray (fun e a' w'=>e = .normal∧((b || i == s)=true∨C w')∧walkT P lo.toArray C s Q l (b || i == s) a' w') ((lo.drop i).take 1) a w):walkT P lo.toArray C s Q (.mv i l) b a w:=by
 simp only [walkT,pick_one]
 exact h
theorem walkT_two {s i j:Nat} {Q:Act→World→Prop} {l m:RTree} {b:Bool} {a:Act} {w:World} {lo:List Oper}
  (h1:wpList P lo.toArray (fun e a' w'=>e = .normal∧((b || i == s)=true∨C w')∧walkT P lo.toArray C s Q l (b || i == s) a' w') ((lo.drop i).take 1) a w)
  (h2:wpList P lo.toArray (fun e a' w'=>e = .normal∧((b || j == s)=true∨C w')∧walkT P lo.toArray C s Q m (b || j == s) a' w') ((lo.drop j).take 1) a w):walkT P lo.toArray C s Q (.two i j l m) b a w:=by
 simp only [walkT,pick_one]
 exact ⟨h1,h2⟩
theorem wp_region_tree {id:Nat} {Q:Exit→Act→World→Prop} {a:Act} {w:World} {l:List Oper} (s:Nat) (ord:RTree) (C:World→Prop) (hm:P.follows .mixedOrders=true)
  (hB:(Region.noSelect l.toArray && decide (ord.len=l.length) && ordT .any l.toArray s ord (Array.replicate l.length false))=true)
  (hC:C { w with drawn:=w.drawn + 1 }) (h:walkT P l.toArray C s (fun a' w'=>Q .normal a' w') ord false a { w with drawn:=w.drawn + 1 }):(Code.region id l.toArray true).wp P Q a w:=by
 simp only [Bool.and_eq_true,decide_eq_true_eq] at hB
 obtain ⟨⟨hsel,hlen⟩,hord⟩:=hB
 refine wp_region_any hm ?_
 have inv0:RInv .any l.toArray (Array.replicate l.length false):=⟨by simp,fun j oj _ hl=>(by rw [getD_replicate_false] at hl; cases hl)⟩
 have H:=anyR_tree (md := .any) hsel ord _ a _ inv0 (.inr hC) hord (by rw [getD_replicate_false]; exact h)
 have:=anyR_any (Q':=Q) (fun a w h=>h) _ _ _ _ H
 rw [hlen] at this
 simpa using this
end
end Go.Proofs.YtlomhfknmhaboaaGreatDoor.RT

namespace Go.Proofs.YtlomhfknmhaboaaGreatDoor
open Go.RowKit
def partsV (nu:Nat→Int) (de:Nat→Nat):Array Value := #[.int .i8 (nu 0),.int .u8 (de 0),.int .i8 (nu 1),.int .u8 (de 1),.int .i8 (nu 2),.int .u8 (de 2),.int .i8 (nu 3),.int .u8 (de 3)]
def partsQ (nu:Nat→Int) (de:Nat→Nat) (m:Nat):List Rat:=(List.range m).map fun i=>fracQ (nu i) (de i)
theorem partsQ_length (nu:Nat→Int) (de:Nat→Nat) (m:Nat):(partsQ nu de m).length=m:=by simp [partsQ]
theorem partsQ_succ (nu:Nat→Int) (de:Nat→Nat) (m:Nat):partsQ nu de (m + 1)=partsQ nu de m ++ [fracQ (nu m) (de m)]:=by simp [partsQ,List.range_succ]
theorem parts_cells {w:World} {g:Nat} {nu:Nat→Int} {de:Nat→Nat} {t:TypeId} (h:w.heap[g]?=some (.cells (partsV nu de) t (0,0))) (k:Nat) (hk:k < 4) :
  w.cell? ⟨g,k * 2,none⟩=some (.int .i8 (nu k))∧w.cell? ⟨g,k * 2 + 1,none⟩=some (.int .u8 (de k)):=by
 have h4:k=0∨k=1∨k=2∨k=3:=by omega
 rcases h4 with rfl | rfl | rfl | rfl <;> exact ⟨by rw [cell_of_row w g _ _ t (0,0) h]; rfl,by rw [cell_of_row w g _ _ t (0,0) h]; rfl⟩
theorem ownS_own {w:World} {B c:Nat} {a:Option Addr} {l:List Rat} (h:OwnQ w B a c l):w.ownsRow B 30 2 (.slice a l.length c) l.length (cellsQ l):=by
 have:w.ownsRow B 30 2 (.slice a (l.map qs).length c) (l.map qs).length (cellsS (l.map qs)):=h
 rw [List.length_map] at this
 exact this
theorem own_ownQ {w:World} {B c:Nat} {a:Option Addr} {l:List Rat} (h:w.ownsRow B 30 2 (.slice a l.length c) l.length (cellsQ l)):OwnQ w B a c l:=by
 show w.ownsRow B 30 2 (.slice a (l.map qs).length c) (l.map qs).length (cellsS (l.map qs))
 rw [List.length_map]
 exact h
set_option maxRecDepth 100000 in
set_option maxHeartbeats 8000000 in
theorem make_any (w:World) (a0:Option Addr) (c0 m:Nat) (hm:m≤4) (nu:Nat→Int) (de:Nat→Nat) (hn:∀ k,-128≤nu k∧nu k≤127) (hd:∀ k,de k < 256) (L:Laid w) :
  Calls Tryz.prog 15 #[.slice a0 m c0,.agg (partsV nu de)] w fun e w'=>∃ a c,e = .returned (.slice a m c)∧OwnQ w' w.heap.size a c (partsQ nu de m)∧Below w.heap.size w w':=by
 have HF:Hid (∀ W k,Below w.heap.size w W→Gives Tryz.prog 24 #[.agg #[.int .i8 (nu k),.int .u8 (de k)]] W (fr (fracQ (nu k) (de k)))):=fun W k hW=>fraction_any W (nu k) (de k) (hn k) (hd k) (L.below hW)
 unfold fr fv at HF
 have B0:=Lib.hid (((Below.refl w.heap.size w).alloc nr_ (.cells (partsV nu de) 40)).alloc (by simp) (.cells #[] 30))
 have K0:=Lib.hid (heap_old (heap_at w (partsV nu de) 40 _ rfl) (.cells #[] 30))
 have O0:Hid (OwnQ ((w.alloc (.cells (partsV nu de) 40)).alloc (.cells #[] 30)) (w.heap.size + 1) (some ⟨w.heap.size + 1,0,none⟩) 0 (partsQ nu de 0)):=by
  have:=own_madeS (w.alloc (.cells (partsV nu de) 40)) [] (by simp)
  rw [World.size_alloc] at this
  exact this
 have Hp0:Hid (partsV nu de = #[.int .i8 (nu 0),.int .u8 (de 0),.int .i8 (nu 1),.int .u8 (de 1),.int .i8 (nu 2),.int .u8 (de 2),.int .i8 (nu 3),.int .u8 (de 3)]):=Lib.hid rfl
 clear L hn hd
 unfold partsV at *
 go_enter Tryz.func15,Tryz.ntmps15
 go_wp2_with fail
 generalize (w.alloc (.cells #[.int .i8 (nu 0),.int .u8 (de 0),.int .i8 (nu 1),.int .u8 (de 1),.int .i8 (nu 2),.int .u8 (de 2),.int .i8 (nu 3),.int .u8 (de 3)] 40)).alloc (.cells #[] 30)=W0 at *
 go_loopw [5,6] (fun o i wr=>∃ (k:Nat) (b:Option Addr) (d:Nat),k≤m∧i = .int .i64 k∧o = .slice b k d∧Hid (wr.heap[w.heap.size]?=some (.cells #[.int .i8 (nu 0),.int .u8 (de 0),.int .i8 (nu 1),.int .u8 (de 1),.int .i8 (nu 2),.int .u8 (de 2),.int .i8 (nu 3),.int .u8 (de 3)] 40 (0,0)))∧Hid (OwnQ wr (w.heap.size + 1) b d (partsQ nu de k))∧Hid (Below w.heap.size w wr)) (fun _ i _=>m - (intOf i).toNat)
 case atStart=>exact ⟨0,_,_,Nat.zero_le _,rfl,rfl,K0,O0,B0⟩
 case round =>
  clear B0 K0 O0
  obtain ⟨k,b,d,hk,rfl,rfl,K,O,B⟩:=hrel
  by_cases hlt:k < m
  ·have hlt':(k:Int) < m:=by omega
   have htm:Int.tmod (k:Int) 4=k:=by rw [Int.tmod_eq_emod_of_nonneg (by omega)]; omega
   obtain ⟨x0,x1⟩:=parts_cells (nu:=nu) (de:=de) K.out k (by omega)
   have hk4:(0:Int)≤k∧(k:Int) < 4:=⟨by omega,by omega⟩
   have Hf:=Lib.hid (HF.out wr k B.out)
   have Hs:=Lib.hid (partsQ_succ nu de k)
   generalize fracQ (nu k) (de k)=q at *
   generalize nu k=z at *
   generalize de k=y at *
   go_wp2_with fail
   refine Calls.mono Hf.out ?_
   rintro e w1 ⟨rfl,hb1⟩
   have hsz:=(Array.getElem?_eq_some_iff.1 K.out).1
   have B1:=Lib.hid (B.out.trans (hb1.mono B.out.size))
   have K1:=Lib.hid (heap_kept K.out hb1 nr_)
   have O1:=Lib.hid (O.out.below hb1 nr_)
   have S1:=Lib.hid (Nat.le_trans hsz hb1.size)
   clear hb1 Hf B K O x0 x1 hsz
   have Ow:Hid (w1.ownsRow (w.heap.size + 1) 30 2 (.slice b k d) k (cellsQ (partsQ nu de k))):=by
    have:=ownS_own O1.out
    rw [partsQ_length] at this
    exact this
   go_wp2_with (at_builtin; refine wpList_append_new rfl (.tmp 14) (.tmp 20) 34 rfl elQ _ 1 [.string (itx q.num),.string (dec q.den)] rfl rfl Ow.out S1.out rfl (by simp [Value.oneCell']) (by omega) (by omega) ?_)
   intro v' w3 hown3 hg3 hnil3
   have hlow:∀ j,j < w.heap.size + 1→w3.heap[j]?=w1.heap[j]?:=fun j hj=>by
    have hs1:=S1.out
    have hjl:j < w1.heap.size:=by omega
    rw [hg3.block j (by simp; omega) (fun e=>by have:=(Ow.out.lt j e.symm).1; omega)]
    exact ((Below.refl w1.heap.size w1).alloc nr_ _).block j hjl
   have K3:Hid (w3.heap[w.heap.size]?=some (.cells #[.int .i8 (nu 0),.int .u8 (de 0),.int .i8 (nu 1),.int .u8 (de 1),.int .i8 (nu 2),.int .u8 (de 2),.int .i8 (nu 3),.int .u8 (de 3)] 40 (0,0))):=by
    show _=_
    rw [hlow _ (by omega)]
    exact K1.out
   have B3:Hid (Below w.heap.size w w3):=(B1.out.alloc B1.out.size _).grown hg3 (by simp; have:=B1.out.size; omega) (fun j hj=>by have:=(Ow.out.lt j hj).1; omega)
   obtain ⟨b3,d3,rfl⟩:=own_form hown3
   have O3:Hid (OwnQ w3 (w.heap.size + 1) b3 d3 (partsQ nu de (k + 1))):=by
    refine own_ownQ ?_
    rw [partsQ_length,Hs.out]
    unfold cellsQ
    rw [List.map_append,cellsS_append]
    exact hown3
   clear hown3 hg3 hnil3 hlow B1 K1 O1 S1 Ow
   go_wp2_with fail
   go_roundw
   case rel=>exact ⟨k + 1,b3,d3,by omega,by go_num,rfl,K3,O3,B3⟩
   case measure=>simp [intOf]; omega
  ·have hlt':¬ (k:Int) < m:=by omega
   have hkm:k=m:=by omega
   subst hkm
   go_wp2_with fail
   go_ret
   exact ⟨b,d,rfl,O.out.lower (by omega),B.out⟩
end Go.Proofs.YtlomhfknmhaboaaGreatDoor
