/- Lemmas for the laws of this seat, part 3. -/
import Derived.Laws.BitsLemmas
import Derived.Laws.Bits64
import Derived.OrdersIn
import Derived.RangeFuncCalls
import Derived.RegionIn
import Derived.BigRegionIn
import Derived.WalkMore
import Derived.Scope
import Derived.Great.BuildSlice
import Derived.Laws.StructEq
import Derived.Lib.Join
import Derived.Shelf.Strings.OnBuilder
import Derived.Lib.SmallJoins
import Derived.Test.YtnjedhgcfeoemaaGreatDoorRows
import Derived.LoopN
import Derived.Deep.MidRow
import Derived.ProofKit
import Derived.OpenShut
import Derived.ShutString
import Derived.ChangeOld
import Derived.Shelf.Lays7
import Derived.Shelf.Spec.BitsCarry
import Derived.Test.YtnjedhgcfeoemaaGreatDoorWi2
set_option maxRecDepth 100000
set_option maxHeartbeats 16000000
namespace Go.Proofs.YtnjedhgcfeoemaaGreatDoor
open Go.RowKit
def IsLg (p N a:Nat):Prop:=2^a≤p^N∧p^N<2^(a+1)
def digStep (unit:Nat) (s:Nat×Nat×Nat):Option (Nat×Nat×Nat) :=
 let low:=s.1*s.1/unit
 let high:=s.2.1*s.2.1/unit+1
 if 2*unit≤low then some (low/2,high/2+1,2*s.2.2+1)
 else if 2*unit≤high then none
 else some (low,high,2*s.2.2)
def digs (p more:Nat):Nat→Option (Nat×Nat×Nat)
 | 0=>some (p*2^(more-p.log2),p*2^(more-p.log2),p.log2)
 | n+1=>(digs p more n).bind (digStep (2^more))
structure DigInv (p unit N:Nat) (s:Nat×Nat×Nat):Prop where
 lg:IsLg p N s.2.2
 lo:s.1*2^s.2.2≤unit*p^N
 hi:unit*p^N≤s.2.1*2^s.2.2
theorem digStep_inv{p unit N:Nat}{s t:Nat×Nat×Nat}(h0:0<unit)(h:DigInv p unit N s)(hs:digStep unit s=some t):DigInv p unit (2*N) t:=by
 obtain⟨l,h',o⟩:=s
 obtain⟨⟨g1,g2⟩,lo,hi⟩:=h
 simp only at g1 g2 lo hi
 simp only[digStep] at hs
 have hP:p^(2*N)=p^N*p^N:=by rw[Nat.two_mul,Nat.pow_add]
 have hO:2^(2*o)=2^o*2^o:=by rw[Nat.two_mul,Nat.pow_add]
 have hO1:2^(2*o+1)=2*(2^o*2^o):=by rw[Nat.pow_succ,hO,Nat.mul_comm]
 have hO2:2^(2*o+1+1)=4*(2^o*2^o):=by rw[Nat.pow_succ,hO1];omega
 have hq:=Nat.div_mul_le_self (l*l) unit
 have hr:=Nat.lt_div_mul_add (a:=h'*h') h0
 generalize hA:l*l/unit=A at *
 generalize hB:h'*h'/unit=B at *
 rw[Nat.pow_succ] at g2
 generalize 2^o=T at *
 generalize p^N=P at *
 -- A * (T * T) ≤ unit * (P * P)
 have e1:A*(T*T)≤unit*(P*P):=by
  have h1:A*unit*(T*T)≤(l*l)*(T*T):=Nat.mul_le_mul_right _ hq
  have h2:(l*T)*(l*T)≤(unit*P)*(unit*P):=Nat.mul_le_mul lo lo
  have h3:unit*(A*(T*T))≤unit*(unit*(P*P)):=by
   calc unit*(A*(T*T))=A*unit*(T*T):=by ac_rfl
    _≤(l*l)*(T*T):=h1
    _=(l*T)*(l*T):=by ac_rfl
    _≤_:=h2
    _=unit*(unit*(P*P)):=by ac_rfl
  exact Nat.le_of_mul_le_mul_left h3 h0
 have e2:unit*(P*P)≤(B+1)*(T*T):=by
  have h1:h'*h'*(T*T)≤((B+1)*unit)*(T*T):=Nat.mul_le_mul_right _ (by rw[Nat.add_mul,Nat.one_mul];omega)
  have h2:(unit*P)*(unit*P)≤(h'*T)*(h'*T):=Nat.mul_le_mul hi hi
  have h3:unit*(unit*(P*P))≤unit*((B+1)*(T*T)):=by
   calc unit*(unit*(P*P))=(unit*P)*(unit*P):=by ac_rfl
    _≤_:=h2
    _=h'*h'*(T*T):=by ac_rfl
    _≤_:=h1
    _=unit*((B+1)*(T*T)):=by ac_rfl
  exact Nat.le_of_mul_le_mul_left h3 h0
 have e3:T*T≤P*P:=Nat.mul_le_mul g1 g1
 have e4:P*P<4*(T*T):=by
  have:=Nat.mul_lt_mul'' g2 g2
  have h4:T*2*(T*2)=4*(T*T):=by
   calc T*2*(T*2)=(2*2)*(T*T):=by ac_rfl
    _=_:=rfl
  omega
 by_cases hl:2*unit≤A
 ·rw[if_pos hl] at hs
  cases hs
  have e5:unit*(2*(T*T))≤unit*(P*P):=by
   calc unit*(2*(T*T))=2*unit*(T*T):=by ac_rfl
    _≤A*(T*T):=Nat.mul_le_mul_right _ hl
    _≤_:=e1
  have e6:2*(T*T)≤P*P:=Nat.le_of_mul_le_mul_left e5 h0
  refine⟨⟨?_,?_⟩,?_,?_⟩
  ·simp only;rw[hO1,hP];exact e6
  ·simp only;rw[hO2,hP];exact e4
  ·simp only;rw[hO1,hP]
   have h5:A/2*2*(T*T)≤A*(T*T):=Nat.mul_le_mul_right _ (by omega)
   rw[Nat.mul_assoc] at h5
   exact Nat.le_trans h5 e1
  ·simp only;rw[hO1,hP]
   have h5:(B+1)*(T*T)≤((B+1)/2+1)*2*(T*T):=Nat.mul_le_mul_right _ (by omega)
   rw[Nat.mul_assoc] at h5
   exact Nat.le_trans e2 h5
 ·rw[if_neg hl] at hs
  by_cases hh:2*unit≤B+1
  ·rw[if_pos hh] at hs;cases hs
  ·rw[if_neg hh] at hs
   cases hs
   have e7:unit*(P*P)<unit*(2*(T*T)):=by
    have hT:0<T*T:=by
     rcases Nat.eq_zero_or_pos (T*T) with h|h
     ·omega
     ·exact h
    calc unit*(P*P)≤(B+1)*(T*T):=e2
     _<2*unit*(T*T):=Nat.mul_lt_mul_of_pos_right (by omega) hT
     _=unit*(2*(T*T)):=by ac_rfl
   have e8:P*P<2*(T*T):=Nat.lt_of_mul_lt_mul_left e7
   refine⟨⟨?_,?_⟩,?_,?_⟩
   ·simp only;rw[hO,hP];exact e3
   ·simp only;rw[hO1,hP];exact e8
   ·simp only;rw[hO,hP];exact e1
   ·simp only;rw[hO,hP];exact e2
theorem digs_inv(p more:Nat)(hp:0<p)(hm:p.log2≤more):∀ n s,digs p more n=some s→DigInv p (2^more) (2^n) s
 | 0,s,h=>by
  simp only[digs,Option.some.injEq] at h
  subst h
  refine⟨⟨?_,?_⟩,?_,?_⟩
  ·simp only[Nat.pow_zero,Nat.pow_one];exact Nat.log2_self_le (by omega)
  ·simp only[Nat.pow_zero,Nat.pow_one];exact Nat.lt_log2_self
  all_goals
   simp only[Nat.pow_zero,Nat.pow_one]
   rw[Nat.mul_assoc,← Nat.pow_add,Nat.sub_add_cancel hm,Nat.mul_comm]
   exact Nat.le_refl _
 | n+1,s,h=>by
  simp only[digs] at h
  obtain⟨t,ht,hs⟩:=Option.bind_eq_some_iff.1 h
  have:=digStep_inv (Nat.two_pow_pos more) (digs_inv p more hp hm n t ht) hs
  rw[Nat.pow_succ,Nat.mul_comm]
  exact this
theorem or_shift(H b:Nat)(hb:b<4):(H*4) ||| b=H*4+b:=by
 have:=Nat.shiftLeft_add_eq_or_of_lt (b:=b) (i:=2) hb H
 rw[Nat.shiftLeft_eq] at this
 exact this.symm
theorem bits_cat(H L:Nat)(hH:H<4611686018427387904)(hL:L<18446744073709551616):bits .or .u64 ((H:Int)*4) ((L:Int)/4611686018427387904)=((H*4+L/4611686018427387904:Nat):Int):=by
 have h:=(bits_nat .u64 64 (by decide) (fun n h0 h1=>by rw[IntKind.wrap_u64];omega) (H*4) (L/4611686018427387904) (by omega) (by omega)).2
 rw[or_shift H _ (by omega)] at h
 simpa using h
theorem bitLen_log(p:Nat)(hp:0<p)(hp2:p≤97):Lib.bitLen p=p.log2+1:=by
 have key:∀ q,q<98→0<q→Lib.bitLen q=q.log2+1:=by decide +kernel
 exact key p (by omega) hp
structure DigFit (j:Nat) (s:Nat×Nat×Nat):Prop where
 lo:s.1<9223372036854775808
 hi:s.2.1<9223372036854775808
 out:s.2.2+1≤7*2^j
theorem digs_fit(p:Nat)(hp:2≤p)(hp2:p≤97):∀ j s,digs p 62 j=some s→DigFit j s
 | 0,s,h=>by
  simp only[digs,Option.some.injEq] at h
  subst h
  have h1:p<2^(p.log2+1):=Nat.lt_log2_self
  have h2:p.log2≤6:=by
   have:=(Nat.log2_lt (n:=p) (k:=7) (by omega)).2 (by omega)
   omega
  have h3:p*2^(62-p.log2)<2^(p.log2+1)*2^(62-p.log2):=Nat.mul_lt_mul_of_pos_right h1 (Nat.two_pow_pos _)
  rw[← Nat.pow_add,show p.log2+1+(62-p.log2)=63 by omega] at h3
  exact⟨h3,h3,by simp;omega⟩
 | j+1,s,h=>by
  simp only[digs] at h
  obtain⟨t,ht,hs⟩:=Option.bind_eq_some_iff.1 h
  obtain⟨f1,f2,f3⟩:=digs_fit p hp hp2 j t ht
  obtain⟨l,g,o⟩:=t
  simp only at f1 f2 f3
  simp only[digStep] at hs
  have q1:l*l≤9223372036854775807*9223372036854775807:=Nat.mul_le_mul (by omega) (by omega)
  have q2:g*g≤9223372036854775807*9223372036854775807:=Nat.mul_le_mul (by omega) (by omega)
  have e:2^(j+1)=2*2^j:=by rw[Nat.pow_succ];omega
  rw[show (2:Nat)^62=4611686018427387904 from rfl] at hs
  by_cases h1:2*4611686018427387904≤l*l/4611686018427387904
  ·rw[if_pos h1] at hs
   cases hs
   exact⟨by simp only;omega,by simp only;omega,by simp only;omega⟩
  ·rw[if_neg h1] at hs
   by_cases h2:2*4611686018427387904≤g*g/4611686018427387904+1
   ·rw[if_pos h2] at hs;cases hs
   ·rw[if_neg h2] at hs
    cases hs
    exact⟨by simp only;omega,by simp only;omega,by simp only;omega⟩
def fastV (p:Nat):Value:=match digs p 62 26 with
 | some s => .tuple #[.int .i64 s.2.2,.bool true]
 | none => .tuple #[.int .i64 0,.bool false]
theorem fast_any(w:World)(p:Nat)(hp:2≤p)(hp2:p≤97):Gives Tryz.prog 240 #[.int .i64 p] w (fastV p):=by
 unfold Gives
 have hln:=hd_ (Tryz.bits_Len p w (by omega) (by omega))
 rw[show ((p:Nat):Int).toNat=p from rfl,bitLen_log p (by omega) hp2] at hln
 have hk:p.log2≤6:=by
  have:=(Nat.log2_lt (n:=p) (k:=7) (by omega)).2 (by omega)
  omega
 have hw1:IntKind.i64.wrap (((p.log2+1:Nat):Int)-1)=(p.log2:Int):=by rw[show ((p.log2+1:Nat):Int)-1=(p.log2:Int) by omega];exact iw_ _ (by omega)
 have hw2:IntKind.u64.wrap (p:Int)=p:=IntWalk.u64_in _ (by omega)
 have hw3:IntKind.i64.wrap (62-(p.log2:Int))=((62-p.log2:Nat):Int):=by rw[show 62-(p.log2:Int)=((62-p.log2:Nat):Int) by omega];exact iw_ _ (by omega)
 go_enter Tryz.func240,Tryz.ntmps240
 go_wp2_with fail
 refine cm_ hln.out ?_
 rintro e w1 ⟨rfl,rfl⟩
 have hw4:IntKind.u64.wrap ((p:Int)*2^(62-p.log2))=((p*2^(62-p.log2):Nat):Int):=by
  have h0:=(digs_fit p hp hp2 0 _ rfl).lo
  simp only at h0
  rw[show ((p*2^(62-p.log2):Nat):Int)=(p:Int)*2^(62-p.log2) by simp]
  rw[← show ((p*2^(62-p.log2):Nat):Int)=(p:Int)*2^(62-p.log2) by simp]
  exact IntWalk.u64_in _ (by omega)
 have H0:Hid (digs p 62 0=some (p*2^(62-p.log2),p*2^(62-p.log2),p.log2)):=rfl
 have Hfit:=hd_ (digs_fit p hp hp2)
 have Hmul:=hd_ (fun x hx=>Tryz.bits_Mul64 x x hx hx w1)
 clear hln
 go_wp2_with fail
 go_loopw [5,6,7,21] (fun a b c i wr=>∃ (j lo hi o:Nat),j≤26∧Hid (digs p 62 j=some (lo,hi,o))∧a = .int .u64 lo∧b = .int .u64 hi∧c = .int .i64 o∧i = .int .i64 j∧wr=w1) (fun _ _ _ i _=>26-(intOf i).toNat)
 case atStart=>exact⟨0,_,_,_,by omega,H0,rfl,rfl,rfl,rfl,rfl⟩
 case round =>
  obtain⟨j,lo,hi,o,hj,Hd,rfl,rfl,rfl,rfl,rfl⟩:=hrel
  by_cases hlt:j<26
  ·have hlt':(j:Int)<26:=by omega
   obtain⟨f1,f2,f3⟩:=Hfit.out j _ Hd.out
   simp only at f1 f2 f3
   have hpw:2^j≤2^26:=Nat.pow_le_pow_right (by decide) (by omega)
   rw[show (2:Nat)^26=67108864 from rfl] at hpw
   have ho:o≤469762048:=by omega
   have q1:lo*lo≤9223372036854775807*9223372036854775807:=Nat.mul_le_mul (by omega) (by omega)
   have q2:hi*hi≤9223372036854775807*9223372036854775807:=Nat.mul_le_mul (by omega) (by omega)
   have hm1:=Hmul.out lo (by omega)
   have hm2:=Hmul.out hi (by omega)
   have Hstep:Hid (digs p 62 (j+1)=digStep (2^62) (lo,hi,o)):=by
    show _=_
    simp only[digs,Hd.out,Option.bind_some]
   have hh1:lo*lo/18446744073709551616<4611686018427387904:=by omega
   have hl1:lo*lo%18446744073709551616<18446744073709551616:=Nat.mod_lt _ (by decide)
   have hx1:lo*lo/18446744073709551616*4+lo*lo%18446744073709551616/4611686018427387904=lo*lo/4611686018427387904:=by omega
   have hh2:hi*hi/18446744073709551616<4611686018427387904:=by omega
   have hl2:hi*hi%18446744073709551616<18446744073709551616:=Nat.mod_lt _ (by decide)
   have hx2:hi*hi/18446744073709551616*4+hi*hi%18446744073709551616/4611686018427387904=hi*hi/4611686018427387904:=by omega
   have hb1:=bits_cat _ _ hh1 hl1
   have hb2:=bits_cat _ _ hh2 hl2
   rw[hx1] at hb1
   rw[hx2] at hb2
   have hX1:lo*lo/4611686018427387904≤18446744073709551612:=by omega
   have hX2:hi*hi/4611686018427387904≤18446744073709551612:=by omega
   simp only[digStep] at Hstep
   rw[show (2:Nat)^62=4611686018427387904 from rfl] at Hstep
   clear f3 hpw hx1 hx2 q1 q2
   generalize lo*lo/18446744073709551616=H1 at *
   generalize lo*lo%18446744073709551616=L1 at *
   generalize hi*hi/18446744073709551616=H2 at *
   generalize hi*hi%18446744073709551616=L2 at *
   generalize lo*lo/4611686018427387904=X1 at *
   generalize hi*hi/4611686018427387904=X2 at *
   clear f1 f2
   obtain⟨x1,hx1⟩:∃ x1:Int,(X1:Int)=x1:=⟨_,rfl⟩
   obtain⟨x2,hx2⟩:∃ x2:Int,(X2:Int)+1=x2:=⟨_,rfl⟩
   have hwX:IntKind.u64.wrap ((X2:Int)+1)=(X2:Int)+1:=IntWalk.u64_in _ (by omega)
   have hx2':(X2:Int)=x2-1:=by omega
   rw[hx1] at hb1
   rw[hx2'] at hb2 hwX
   have hwX2:IntKind.u64.wrap (x2-1+1)=x2:=by rw[hwX];omega
   have Hx1:=hd_ hx1
   have Hx2:=hd_ hx2
   have hx1b:0≤x1∧x1≤18446744073709551612:=by omega
   have hx2b:1≤x2∧x2≤18446744073709551613:=by omega
   clear hwX hx1 hx2 hx2'
   have hwH1:IntKind.u64.wrap ((H1:Int)*4)=(H1:Int)*4:=IntWalk.u64_in _ (by omega)
   have hwH2:IntKind.u64.wrap ((H2:Int)*4)=(H2:Int)*4:=IntWalk.u64_in _ (by omega)
   clear hX1 hX2 hh1 hh2 hl1 hl2
   go_wp2_with fail
   refine cm_ hm1 ?_
   rintro e w2 ⟨rfl,rfl⟩
   clear hm1
   go_wp2_with fail
   refine cm_ hm2 ?_
   rintro e w2 ⟨rfl,rfl⟩
   clear hm2
   go_wp2_with fail
   ·rename_i hc1
    have Hst:Hid (digs p 62 (j+1)=some (X1/2,(X2+1)/2+1,2*o+1)):=by
     show _=_
     rw[Hstep.out,if_pos (by have:=Hx1.out;omega)]
    go_roundw
    case rel=>exact⟨j+1,X1/2,(X2+1)/2+1,2*o+1,by omega,Hst,by rw[← Hx1.out];go_num,by rw[← Hx2.out];go_num,by go_num,by go_num,trivial⟩
    case measure=>simp[intOf];omega
   ·rename_i hc1 hc2
    have Hst:Hid (digs p 62 (j+1)=none):=by
     show _=_
     rw[Hstep.out,if_neg (by have:=Hx1.out;omega),if_pos (by have:=Hx2.out;omega)]
    have Hnone:Hid (fastV p = .tuple #[.int .i64 0,.bool false]):=by
     have key:∀ m,digs p 62 (j+1+m)=none:=fun m=>by
      induction m with
      | zero=>exact Hst.out
      | succ m ih=>rw[← Nat.add_assoc];show (digs p 62 (j+1+m)).bind _=none;rw[ih];rfl
     show _=_
     unfold fastV
     have:=key (25-j)
     rw[show j+1+(25-j)=26 by omega] at this
     rw[this]
    go_ret2
    exact⟨by rw[Hnone.out];rfl,Below.refl _ _⟩
   ·rename_i hc1 hc2
    have Hst:Hid (digs p 62 (j+1)=some (X1,X2+1,2*o)):=by
     show _=_
     rw[Hstep.out,if_neg (by have:=Hx1.out;omega),if_neg (by have:=Hx2.out;omega)]
    go_roundw
    case rel=>exact⟨j+1,X1,X2+1,2*o,by omega,Hst,by rw[← Hx1.out],by rw[← Hx2.out];go_num,by go_num,by go_num,trivial⟩
    case measure=>simp[intOf];omega
  ·have hlt':¬ (j:Int)<26:=by omega
   have hj26:j=26:=by omega
   subst hj26
   have Hsome:Hid (fastV p = .tuple #[.int .i64 o,.bool true]):=by
    show _=_
    unfold fastV
    rw[Hd.out]
   go_wp2
   go_ret2
   exact⟨by rw[Hsome.out];rfl,Below.refl _ _⟩
end Go.Proofs.YtnjedhgcfeoemaaGreatDoor

namespace Go.Proofs.YtnjedhgcfeoemaaGreatDoor
open Go Go.Sort
section
variable {P:Program} {ops:Array Oper} {md:Region.Mode} {cs:List (Nat×(World→Prop))}
def noEnter2:Op→Bool
 | .move _ | .assign _ | .load _ _ | .fieldAddr _ _ _ | .indexAddr _ _ _ | .binOp _ _ _ _ _=>true
 | .call c=>match c.callee with
  | .builtin .min | .builtin .max | .builtin .len=>true
  | _=>false
 | _=>false
theorem no_enter2{o:Oper}{a:Act}{w w':World}{f:FuncId}{args:Array Value}(ho:noEnter2 o.op=true)(h:(execOp a.eval o).run P w = .ok (.enter f args) w'):False:=by
 have cases5:(∃ x,o.op = .move x)∨(∃ x,o.op = .assign x)∨(∃ t x,o.op = .load t x)∨(∃ t x k,o.op = .fieldAddr t x k)∨(∃ t x y,o.op = .indexAddr t x y)∨(∃ b t x y r,o.op = .binOp b t x y r)∨(∃ c,o.op = .call c):=by
  cases hop:o.op<;>rw[hop] at ho<;>first | (simp[noEnter2] at ho;done) | simp
 rcases cases5 with⟨x,hop⟩|⟨x,hop⟩|⟨t,x,hop⟩|⟨t,x,k,hop⟩|⟨t,x,y,hop⟩|⟨b,t,x,y,r,hop⟩|⟨c,hop⟩
 ·rw[BigFrame.run_move x hop] at h;cases h
 ·rw[BigFrame.run_assign x hop] at h;cases h
 ·unfold execOp at h;rw[hop] at h;exact RP.value_no_enter h
 ·unfold execOp at h;rw[hop] at h;exact RP.value_no_enter h
 ·unfold execOp at h;rw[hop] at h;exact RP.value_no_enter h
 ·unfold execOp at h;rw[hop] at h;exact RP.value_no_enter h
 ·rw[hop] at ho
  unfold execOp at h
  rw[hop] at h
  unfold noEnter2 at ho
  simp only at ho h
  unfold resolve at h
  cases hc:c.callee with
  | value x=>rw[hc] at ho;cases ho
  | invoke x y=>rw[hc] at ho;cases ho
  | builtin b =>
   rw[hc] at ho h
   simp only[Sem.run_bind,Sem.run_pure,Result.andThen_ok,invoke] at h
   cases b<;>first | (simp at ho;done) | (unfold builtin at h;exact RP.value_no_enter h)
theorem still_of_quiet2{D:World→Prop}{o:Oper}{a:Act}{w:World}{v:Value}(ho:noEnter2 o.op=true)(h:o.quietAt P a D w v){K:Act→World→Prop}(hk:K (a.put o.dst v) w):o.wp P a w K (fun _ _ _=>False):=by
 unfold Oper.quietAt at h
 unfold Oper.wp
 have hne:=@no_enter2 P o a w
 generalize (execOp a.eval o).run P w=r at *
 cases r with
 | ok n w' =>
  cases n<;>simp only[Oper.quietUpon] at h<;>simp only[Oper.upon]
  case value u=>obtain⟨rfl,rfl⟩:=h;exact hk
  case skip=>obtain⟨rfl,rfl⟩:=h;exact hk
  case enter f args=>exact(hne ho rfl).elim
 | halt x w'=>simp only[Oper.quietUpon] at h
def SafeL:List (Nat×(World→Prop))→(Nat→Bool)→World→Prop
 | [],_,_=>True
 | c::cs,b,w=>(b c.1=true∨c.2 w)∧SafeL cs b w
theorem SafeL.get:∀ {cs:List (Nat×(World→Prop))} {b:Nat→Bool} {w:World},SafeL cs b w→∀ c∈cs,b c.1=true∨c.2 w
 | [],_,_,_,c,hc=>by cases hc
 | d::cs,b,w,h,c,hc=>by
  rcases List.mem_cons.1 hc with rfl|hc
  ·exact h.1
  ·exact SafeL.get h.2 c hc
theorem SafeL.mono:∀ {cs:List (Nat×(World→Prop))} {b b':Nat→Bool} {w:World},(∀ s,b s=true→b' s=true)→SafeL cs b w→SafeL cs b' w
 | [],_,_,_,_,_=>trivial
 | _::_,_,_,_,hb,h=>⟨h.1.imp (hb _) id,SafeL.mono hb h.2⟩
theorem SafeL.congr{cs:List (Nat×(World→Prop))}{b b':Nat→Bool}{w:World}(hb:∀ s,b s=b' s)(h:SafeL cs b w):SafeL cs b' w:=h.mono (fun s hs=>by rw[← hb s];exact hs)
def upB (listed:Array Bool) (s:Nat):Bool:=listed.getD s false
def anyR2 (P:Program) (md:Region.Mode) (ops:Array Oper) (cs:List (Nat×(World→Prop))) (Q:Act→World→Prop):Nat→Array Bool→Act→World→Prop
 | 0,listed,a,w=>Region.ready md ops listed=[]∧Q a w
 | f+1,listed,a,w=>Region.ready md ops listed≠[]∧∀ i∈Region.ready md ops listed,
   wpOp P ops (fun _ _ _=>False) i (fun a' w'=>SafeL cs (upB (listed.setIfInBounds i true)) w'∧anyR2 P md ops cs Q f (listed.setIfInBounds i true) a' w') a w
def ReadsIn2 (P:Program) (ops:Array Oper) (md:Region.Mode) (cs:List (Nat×(World→Prop))) (i:Nat) (o:Oper) (v:Value) (a:Act):Prop :=
 (∃ c∈cs,RP.reachB md ops 4 c.1 i=true∧YieldsIn P ops c.2 o v a)∨YieldsIn P ops (fun _=>True) o v a
theorem ReadsIn2.of_same{i:Nat}{o:Oper}{v:Value}{a a':Act}(hy:ReadsIn2 P ops md cs i o v a)(he:execOp a'.eval o=execOp a.eval o)
  (hw:Region.wanted o (yielded ops a'.tmps)=Region.wanted o (yielded ops a.tmps)):ReadsIn2 P ops md cs i o v a' :=
 hy.imp (fun ⟨c,hc,h1,h2⟩=>⟨c,hc,h1,h2.of_same he hw⟩) (fun h=>h.of_same he hw)
theorem reads_op2{i:Nat}{o:Oper}{v:Value}{a:Act}{w:World}{listed:Array Bool}(hi:ops[i]?=some o)(hne:noEnter2 o.op=true)(inv:RP.RInv md ops listed)(hr:i∈Region.ready md ops listed)(hs:SafeL cs (upB listed) w)
  (hy:ReadsIn2 P ops md cs i o v a) {K:Act→World→Prop} (hk:K (a.put o.dst v) w):wpOp P ops (fun _ _ _=>False) i K a w:=by
 have key:∀ D:World→Prop,D w→YieldsIn P ops D o v a→wpOp P ops (fun _ _ _=>False) i K a w:=fun D hD h=>by
  unfold wpOp
  simp only[hi]
  rcases h with⟨h1,h2⟩|⟨h1,rfl⟩
  ·simp only[h1,if_true]
   exact .inl (still_of_quiet2 hne (h2 w hD) hk)
  ·simp only[h1,Bool.false_eq_true,if_false]
   exact hk
 rcases hy with⟨c,hc,hw,h⟩|h
 ·refine key c.2 ?_ h
  rcases hs.get c hc with hs|hs
  ·have:=RP.reach_listed inv 4 c.1 i hw hs
   rw[getD_both (mem_ready.1 hr).1] at this
   cases this
  ·exact hs
 ·exact key _ trivial h
theorem wpOp_put2{j:Nat}{oi oj:Oper}{v:Value}(hj:ops[j]?=some oj)(hap:oi.apart ops oj=true)
  (hsi:∀ cs b,oi.op ≠ .select cs b) (hsj:∀ cs b,oj.op ≠ .select cs b) {i:Nat} {K:Act→World→Prop} {a:Act} {w:World}
  (hy:ReadsIn2 P ops md cs i oi v a) (h:wpOp P ops (fun _ _ _=>False) j K (a.put oi.dst v) w) :
  wpOp P ops (fun _ _ _=>False) j (fun a' w'=>ReadsIn2 P ops md cs i oi v a'∧K (a'.put oi.dst v) w') a w:=by
 obtain⟨h1,h2,h3⟩:=Oper.apart_spec hap
 have keep:∀ (a:Act),ReadsIn2 P ops md cs i oi v a→∀ u,ReadsIn2 P ops md cs i oi v (a.put oj.dst u):=fun a hy u =>
  hy.of_same (execOp_put oi hsi a oj.dst u h3) (wanted_put oi a oj.dst u h3)
 have keepd:∀ d,ReadsIn2 P ops md cs i oi v ({ a with defers:=d::a.defers }:Act):=fun d=>hy.of_same rfl rfl
 unfold wpOp at *
 simp only[hj] at *
 rw[wanted_put oj a oi.dst v h1] at h
 split
 ·rename_i hw
  simp only[hw,if_true] at h
  left
  rcases h with h|⟨_,_,_,hf⟩
  ·unfold Oper.wp at *
   rw[execOp_put oj hsj a oi.dst v h1] at h
   generalize (execOp a.eval oj).run P w=r at *
   cases r with
   | ok n w' =>
    cases n<;>simp only[Oper.upon] at h ⊢
    case value u=>exact⟨keep a hy u,by rw[← Act.put_comm a v u h2];exact h⟩
    case skip=>exact⟨keep a hy undef,by rw[← Act.put_comm a v undef h2];exact h⟩
    case defer d =>
     refine⟨keep _ (keepd d) undef,?_⟩
     rw[Act.put_defers] at h
     rw[← Act.put_comm _ v undef h2]
     exact h
    case enter f args =>
     exact cm_ h (fun e w'' he=>by
      cases e
      case returned u=>exact⟨keep a hy u,by rw[← Act.put_comm a v u h2];exact he⟩
      case panicked c=>exact he
      case outgrown=>obtain⟨_,_,hf⟩:=he;exact hf.elim)
    case row row args=>exact Rows.mono h (fun u w'' he=>⟨keep a hy u,by rw[← Act.put_comm a v u h2];exact he⟩)
    all_goals exact h
   | halt x w'=>cases x<;>simp only[Oper.upon] at h<;>exact h.elim
  ·exact hf.elim
 ·rename_i hw
  simp only[hw] at h
  exact⟨keep a hy _,by rw[← Act.put_comm a v undef h2];exact h⟩
theorem anyR2_first{i:Nat}{oi:Oper}{v:Value}{Q:Act→World→Prop}(hi:ops[i]?=some oi)(his:∀ c∈cs,i≠c.1)(hne:noEnter2 oi.op=true)(hsel:∀ (j:Nat) (o:Oper) cs b,ops[j]?=some o→o.op ≠ .select cs b):
  ∀ (f:Nat) (listed:Array Bool) (a:Act) (w:World),RP.RInv md ops listed →
   (∀ j oj,ops[j]?=some oj→j≠i→listed.getD j true=false→(∀ e∈oj.after,Region.binds md e=true→e.on≠i)→oi.apart ops oj=true) →
   i∈Region.ready md ops listed→ReadsIn2 P ops md cs i oi v a→SafeL cs (upB listed) w →
   anyR2 P md ops cs Q f (listed.setIfInBounds i true) (a.put oi.dst v) w→anyR2 P md ops cs Q (f+1) listed a w:=by
 have hstep:∀ (listed:Array Bool) (w:World),SafeL cs (upB listed) w→SafeL cs (upB (listed.setIfInBounds i true)) w:=fun listed w h=>h.mono (fun s hs=>getD_set_true hs)
 have hback:∀ (cs':List (Nat×(World→Prop))),(∀ c∈cs',i≠c.1)→∀ (listed:Array Bool) (w:World),SafeL cs' (upB (listed.setIfInBounds i true)) w→SafeL cs' (upB listed) w:=by
  intro cs'
  induction cs' with
  | nil=>intro _ _ _ _;trivial
  | cons c cs' ih =>
   intro hi' listed w h
   refine⟨h.1.imp (fun hb=>?_) id,ih (fun d hd=>hi' d (List.mem_cons_of_mem _ hd)) listed w h.2⟩
   unfold upB at hb ⊢
   rw[getD_set_ne false (hi' c (List.mem_cons_self ..))] at hb
   exact hb
 intro f
 induction f with
 | zero =>
  intro listed a w inv _ hr hy hs H
  refine⟨fun h=>(by rw[h] at hr;cases hr),fun j hj=>?_⟩
  by_cases hji:j=i
  ·subst hji
   exact reads_op2 hi hne inv hr hs hy ⟨hstep _ _ hs,H⟩
  ·have:=ready_mono hj hji
   rw[H.1] at this
   cases this
 | succ f ih =>
  intro listed a w inv hfree hr hy hs H
  have hun:=(mem_ready.1 hr).1
  refine⟨fun h=>(by rw[h] at hr;cases hr),fun j hj=>?_⟩
  by_cases hji:j=i
  ·subst hji
   exact reads_op2 hi hne inv hr hs hy ⟨hstep _ _ hs,H⟩
  ·have h1:=H.2 j (ready_mono hj hji)
   obtain⟨hjun,oj,hoj,hall⟩:=mem_ready.1 hj
   have hnot:∀ e∈oj.after,Region.binds md e=true→e.on≠i:=fun e he hb heq=>by
    have h1:=hall e he hb
    rw[heq,getD_both hun] at h1
    cases h1
   have h2:=wpOp_put2 hoj (hfree j oj hoj hji hjun hnot) (fun cs b=>hsel i oi cs b hi) (fun cs b=>hsel j oj cs b hoj) hy h1
   have hfree':∀ k ok,ops[k]?=some ok→k≠i→(listed.setIfInBounds j true).getD k true=false →
     (∀ e∈ok.after,Region.binds md e=true→e.on≠i)→oi.apart ops ok=true:=fun k ok hk hki hun hno=>by
    refine hfree k ok hk hki ?_ hno
    by_cases hjk:j=k
    ·subst hjk;exact hjun
    ·rw[getD_set_ne true hjk] at hun;exact hun
   have hr':=ready_mono hr (Ne.symm hji)
   refine wpOp_mono (fun a' w' h3=>?_) h2
   obtain⟨hy',hs',H'⟩:=h3
   have hs2:SafeL cs (upB (listed.setIfInBounds j true)) w':=by
    rw[Array.setIfInBounds_comm _ _ (Ne.symm hji)] at hs'
    exact hback cs his _ _ hs'
   refine⟨hs2,ih (listed.setIfInBounds j true) a' w' (inv.set hj) hfree' hr' hy' hs2 ?_⟩
   rw[Array.setIfInBounds_comm _ _ hji]
   exact H'
def ordB2 (md:Region.Mode) (ops:Array Oper) (ss:List Nat):List (Nat×Nat)→Array Bool→Bool
 | [],listed=>(Region.ready md ops listed).isEmpty
 | (k,i)::l,listed =>
  (if k=0 then decide (Region.ready md ops listed=[i])
  else (Region.ready md ops listed).contains i&&Region.free md ops listed i&&(match ops[i]? with | some o=>noEnter2 o.op | none=>false)&&(ss.all fun s=>decide (i≠s))&&(k==1||RP.reachB md ops 4 (k-2) i)) &&
  ordB2 md ops ss l (listed.setIfInBounds i true)
def walkR2 (P:Program) (ops:Array Oper) (cs:List (Nat×(World→Prop))) (Q:Act→World→Prop):List (Nat×Nat)→(Nat→Bool)→Act→World→Prop
 | [],_,a,w=>Q a w
 | (k,i)::l,b,a,w =>
  if k=0 then wpList P ops (fun e a' w'=>e = .normal∧SafeL cs (fun s=>b s||i==s) w'∧walkR2 P ops cs Q l (fun s=>b s||i==s) a' w') (ops[i]?).toList a w
  else if k=1 then wpQuiet P ops (fun _=>True) (fun a'=>walkR2 P ops cs Q l b a' w) (ops[i]?).toList a
  else ∃ c∈cs,c.1=k-2∧wpQuiet P ops c.2 (fun a'=>walkR2 P ops cs Q l b a' w) (ops[i]?).toList a
theorem SafeL.congr_on:∀ {cs:List (Nat×(World→Prop))} {b b':Nat→Bool} {w:World},(∀ c∈cs,b c.1=b' c.1)→SafeL cs b w→SafeL cs b' w
 | [],_,_,_,_,_=>trivial
 | c::cs,b,b',w,hb,h=>⟨h.1.imp (fun h1=>by rw[← hb c (List.mem_cons_self ..)];exact h1) id,SafeL.congr_on (fun d hd=>hb d (List.mem_cons_of_mem _ hd)) h.2⟩
theorem anyR2_walk{Q:Act→World→Prop}(hsel:Region.noSelect ops=true):
  ∀ (l:List (Nat×Nat)) (b:Nat→Bool) (listed:Array Bool) (a:Act) (w:World),(∀ c∈cs,b c.1=upB listed c.1)→RP.RInv md ops listed→SafeL cs (upB listed) w→ordB2 md ops (cs.map Prod.fst) l listed=true →
   walkR2 P ops cs Q l b a w→anyR2 P md ops cs Q l.length listed a w
 | [],b,listed,a,w,_,_,_,hB,h=>⟨by simpa [ordB2] using hB,h⟩
 | (k,i)::l,b,listed,a,w,hb,inv,hs,hB,h=>by
  simp only[ordB2,Bool.and_eq_true] at hB
  obtain⟨hB1,hB2⟩:=hB
  by_cases hk:k=0
  ·subst hk
   simp only[if_true,decide_eq_true_eq] at hB1
   have hr:i∈Region.ready md ops listed:=by rw[hB1];exact List.mem_singleton.2 rfl
   obtain⟨hun,o,ho,_⟩:=mem_ready.1 hr
   have hlt:i<listed.size:=by rw[inv.size];exact(Array.getElem?_eq_some_iff.1 ho).1
   have hgs:∀ c∈cs,(b c.1||i==c.1)=upB (listed.setIfInBounds i true) c.1:=fun c hc=>by
    rw[hb c hc]
    unfold upB
    by_cases his:i=c.1
    ·rw[his] at hlt ⊢
     simp[hlt]
    ·rw[getD_set_ne false his]
     simp[his]
   refine⟨by rw[hB1];simp,fun j hj=>?_⟩
   rw[hB1] at hj
   obtain rfl:=List.mem_singleton.1 hj
   simp only[walkR2,if_true,ho,Option.toList] at h
   have h2:wpOp P ops (fun e a' w'=>e = .normal∧SafeL cs (fun s=>b s||j==s) w'∧walkR2 P ops cs Q l (fun s=>b s||j==s) a' w') j (fun a' w'=>SafeL cs (fun s=>b s||j==s) w'∧walkR2 P ops cs Q l (fun s=>b s||j==s) a' w') a w:=by
    unfold wpOp
    simp only[ho]
    simp only[wpList,true_and] at h
    exact h
   have h3:=RP.wpOp_strong (fun e a' w' hq=>hq.1) h2
   refine wpOp_mono (fun a' w' h4=>?_) h3
   have hs2:SafeL cs (upB (listed.setIfInBounds j true)) w':=h4.1.congr_on hgs
   exact⟨hs2,anyR2_walk hsel l _ _ a' w' hgs (inv.set hr) hs2 hB2 h4.2⟩
  ·rw[if_neg hk] at hB1
   simp only[Bool.and_eq_true,Bool.or_eq_true,beq_iff_eq,List.all_eq_true,decide_eq_true_eq] at hB1
   obtain⟨⟨⟨⟨hr,hf⟩,hne⟩,his⟩,hw⟩:=hB1
   have hr':i∈Region.ready md ops listed:=by simpa using hr
   obtain⟨_,o,ho,_⟩:=mem_ready.1 hr'
   have hne':noEnter2 o.op=true:=by rw[ho] at hne;exact hne
   have his':∀ c∈cs,i≠c.1:=fun c hc=>his c.1 (List.mem_map.2 ⟨c,hc,rfl⟩)
   have hs2:SafeL cs (upB (listed.setIfInBounds i true)) w:=hs.mono (fun s hs=>getD_set_true hs)
   simp only[walkR2,if_neg hk] at h
   have hread:∃ v,ReadsIn2 P ops md cs i o v a∧walkR2 P ops cs Q l b (a.put o.dst v) w:=by
    by_cases h2:k=1
    ·rw[if_pos h2] at h
     obtain⟨v,hy,hK⟩:=yieldsIn_of_qOp ho (RP.qOp_of_list ho h)
     exact⟨v,.inr hy,hK⟩
    ·rw[if_neg h2] at h
     obtain⟨c,hc,hck,h⟩:=h
     obtain⟨v,hy,hK⟩:=yieldsIn_of_qOp ho (RP.qOp_of_list ho h)
     exact⟨v,.inl ⟨c,hc,by rw[hck];exact hw.resolve_left h2,hy⟩,hK⟩
   obtain⟨v,hy,hK⟩:=hread
   have hb2:∀ c∈cs,b c.1=upB (listed.setIfInBounds i true) c.1:=fun c hc=>by
    rw[hb c hc];unfold upB;rw[getD_set_ne false (his' c hc)]
   exact anyR2_first ho his' hne' (Region.noSelect_spec hsel) l.length listed a w inv (Region.free_spec ho hf) hr' hy hs
    (anyR2_walk hsel l b _ _ w hb2 (inv.set hr') hs2 hB2 hK)
theorem start2{ord:List (Nat×Nat)}{l:List Oper}{a:Act}{w:World}{Q:Act→World→Prop}(hsel:Region.noSelect l.toArray=true)(hord:ordB2 .any l.toArray (cs.map Prod.fst) ord (Array.replicate l.length false)=true)
  (hC:SafeL cs (fun _=>false) w) (h:walkR2 P l.toArray cs Q ord (fun _=>false) a w):anyR2 P .any l.toArray cs Q ord.length (Array.replicate l.length false) a w:=by
 have hf:∀ s,upB (Array.replicate l.length false) s=false:=fun s=>getD_replicate_false _ _
 refine anyR2_walk hsel ord _ _ a w (fun c _=>(hf c.1).symm) ⟨by simp,fun j oj _ hl=>(by rw[getD_replicate_false] at hl;cases hl)⟩ (hC.congr_on (fun c _=>(hf c.1).symm)) hord h
theorem wpOpIn_of_wpOp{i l0 n:Nat}{a:Act}{w:World}{K K':Act→World→Prop}{Q':Exit→Act→World→Prop}(hnd:∀ o c,ops[i]?=some o→o.op ≠ .defer c)(_hnr:∀ o c,ops[i]?=some o→o.op ≠ .go c)(hk:∀ a w,K a w→K' a w)
  (h:wpOp P ops (fun _ _ _=>False) i K a w):wpOpIn (Fence.wide.inRound l0) n P ops Q' i K' a w:=by
 unfold wpOp at h
 unfold wpOpIn
 split
 ·rename_i ho;simp only[ho] at h;exact hk _ _ h
 ·rename_i o ho
  simp only[ho] at h
  split
  ·rename_i hw
   simp only[hw,if_true] at h
   rcases h with h|⟨_,_,_,hf⟩
   ·refine⟨fun _ _=>trivial,?_⟩
    unfold Oper.wp at h
    rw[show (Fence.wide.inRound l0).round=some l0 from rfl,Oper.semAt_some l0 _ _ (fun c=>hnd o c ho)]
    generalize (execOp a.eval o).run P w=r at *
    cases r with
    | ok x w' =>
     cases x<;>simp only[Oper.upon,Oper.uponIn] at h ⊢
     case value=>exact hk _ _ h
     case skip=>exact hk _ _ h
     case defer=>exact hk _ _ h
     case enter f args =>
      refine⟨fun hd=>(by cases hd),?_⟩
      have h2:=Calls.mono h (R':=fun e w''=>match e,w'' with
       | .returned v,w''=>K' (a.put o.dst v) w''
       | .panicked chain,w''=>Q' (.panic chain) a w''
       | .outgrown,_=>LetsOut Q') (fun e w'' he=>by cases e<;>first | exact hk _ _ he | exact he.elim | (obtain⟨_,_,hf⟩:=he;exact hf.elim))
      exact CallsIn.inRound l0 (callsIn_wide.2 h2)
     case row row args=>exact⟨fun hd=>(by cases hd),fun c cs _=>let ⟨v,w',r,s⟩:=h c cs;⟨v,w',hk _ _ r,stepsIn_wide.2 s⟩⟩
    | halt x w'=>cases x<;>simp only[Oper.upon] at h<;>exact h.elim
   ·exact hf.elim
  ·rename_i hw;simp only[hw] at h;exact⟨fun _ _=>trivial,hk _ _ h⟩
def plainOps (ops:Array Oper):Bool:=ops.all fun o=>match o.op with | .defer _ | .go _=>false | _=>true
theorem plainOps_spec{ops:Array Oper}(h:plainOps ops=true){i:Nat}{o:Oper}(hi:ops[i]?=some o):(∀ c,o.op ≠ .defer c)∧(∀ c,o.op ≠ .go c):=by
 have hm:o∈ops:=Array.mem_of_getElem? hi
 have:=Array.all_eq_true'.1 h o hm
 refine⟨fun c hc=>?_,fun c hc=>?_⟩<;>rw[hc] at this<;>cases this
theorem anyR2_anyIn{l0 n:Nat}{Q:Act→World→Prop}{Q':Exit→Act→World→Prop}(hpl:plainOps ops=true)(hQ:∀ a w,Q a w→Q' .normal a w):
  ∀ (f:Nat) (listed:Array Bool) (a:Act) (w:World),anyR2 P md ops cs Q f listed a w→wpAnyIn (Fence.wide.inRound l0) n P md ops Q' f listed a w
 | 0,_,_,_,h=>⟨h.1,hQ _ _ h.2⟩
 | f+1,_,_,_,h=>⟨fun h0=>absurd h0 h.1,fun i hi=>wpOpIn_of_wpOp (fun _ c ho=>(plainOps_spec hpl ho).1 c) (fun _ c ho=>(plainOps_spec hpl ho).2 c) (fun a' w' h'=>anyR2_anyIn hpl hQ f _ a' w' h'.2) (h.2 i hi)⟩
theorem wpIn_region_readers2{id l0 n:Nat}{Q:Exit→Act→World→Prop}{a:Act}{w:World}{l:List Oper}(ord:List (Nat×Nat))(cs:List (Nat×(World→Prop)))(hm:P.follows .mixedOrders=true)
  (hB:(Region.noSelect l.toArray&&decide (ord.length=l.length)&&plainOps l.toArray&&ordB2 .any l.toArray (cs.map Prod.fst) ord (Array.replicate l.length false))=true)
  (hC:SafeL cs (fun _=>false) { w with drawn:=w.drawn+1 }) (h:walkR2 P l.toArray cs (fun a' w'=>Q .normal a' w') ord (fun _=>false) a { w with drawn:=w.drawn+1 }):(Code.region id l.toArray true).wpIn (Fence.wide.inRound l0) n P Q a w:=by
 simp only[Bool.and_eq_true,decide_eq_true_eq] at hB
 obtain⟨⟨⟨hsel,hlen⟩,hpl⟩,hord⟩:=hB
 refine wpIn_region_any hm ?_
 have:=anyR2_anyIn (l0:=l0) (n:=n) (Q':=Q) hpl (fun a w h=>h) _ _ _ _ (start2 hsel hord hC h)
 rw[hlen] at this
 simpa using this
theorem walkR2_read{s i:Nat}{Q:Act→World→Prop}{l:List (Nat×Nat)}{b:Nat→Bool}{a:Act}{w:World}{lo:List Oper}(c:Nat×(World→Prop))(hc:c∈cs)(hs:c.1=s)(h:wpQuiet P lo.toArray c.2 (fun a'=>walkR2 P lo.toArray cs Q l b a' w) ((lo.drop i).take 1) a):walkR2 P lo.toArray cs Q ((s+2,i)::l) b a w:=by
 simp only[walkR2,RP.pick_one]
 rw[if_neg (by omega),if_neg (by omega)]
 exact⟨c,hc,by omega,h⟩
theorem walkR2_any{i:Nat}{Q:Act→World→Prop}{l:List (Nat×Nat)}{b:Nat→Bool}{a:Act}{w:World}{lo:List Oper}(h:wpQuiet P lo.toArray (fun _=>True) (fun a'=>walkR2 P lo.toArray cs Q l b a' w) ((lo.drop i).take 1) a):walkR2 P lo.toArray cs Q ((1,i)::l) b a w:=by
 simp only[walkR2,RP.pick_one]
 exact h
theorem walkR2_move{i:Nat}{Q:Act→World→Prop}{l:List (Nat×Nat)}{b:Nat→Bool}{a:Act}{w:World}{lo:List Oper}
  (h:wpList P lo.toArray (fun e a' w'=>e = .normal∧SafeL cs (fun s=>b s||i==s) w'∧walkR2 P lo.toArray cs Q l (fun s=>b s||i==s) a' w') ((lo.drop i).take 1) a w):walkR2 P lo.toArray cs Q ((0,i)::l) b a w:=by
 simp only[walkR2,RP.pick_one]
 exact h
end
end Go.Proofs.YtnjedhgcfeoemaaGreatDoor

namespace Go.Proofs.YtnjedhgcfeoemaaGreatDoor
open Go.RowKit Go.Shelf
attribute [local go_sem] Oper.semAt_some
def lgA (p:Int):Int:=match digs p.toNat 62 26 with
 | some s=>s.2.2
 | none=>0
def lgB (p:Int):Int:=if p=2 then lgA p else lgA p+1
def okT (most:Int) (x:Int×Int):Prop:=(-most≤x.2∧x.2≤most)∧(digs x.1.toNat 62 26).isSome=true
instance (most:Int) (x:Int×Int):Decidable (okT most x):=by unfold okT;infer_instance
def lowT (tl:List (Int×Int)):Int:=(tl.map fun x=>min (x.2*lgA x.1) (x.2*lgB x.1)).sum
def highT (tl:List (Int×Int)):Int:=(tl.map fun x=>max (x.2*lgA x.1) (x.2*lgB x.1)).sum
structure CellW (p:Addr) (v:Value) where
 w:World
 h:w.cell? p=some v
def nearV (most:Int) (tl:List (Int×Int)):Value :=
 if ∀ x∈tl,okT most x then .tuple #[.int .i64 (lowT tl),.int .i64 (highT tl),.bool true] else .tuple #[.int .i64 0,.int .i64 0,.bool false]
theorem keeps_of_below{W W':World}(h:Below W.heap.size W W'):KeepsOthers W W' :=
 ⟨h.size,fun k _ hk _=>(h.block k (Array.getElem?_eq_some_iff.1 hk).1).trans hk⟩
theorem one_cell{w:World}{g:Nat}{a:Value}{t:TypeId}(h:w.heap[g]?=some (.cells #[a] t (0,0))):w.cell? ⟨g,0,none⟩=some a∧w.frozen? ⟨g,0,none⟩=false :=
 ⟨by rw[cell_of_row w g 0 _ t (0,0) h];rfl,by simp[World.frozen?,h]⟩
theorem heap_old{w:World}{g:Nat}{o:Obj}(h:w.heap[g]?=some o)(o':Obj):(w.alloc o').heap[g]?=some o:=by
 exact(Below.heap_alloc w o' g (Array.getElem?_eq_some_iff.1 h).1).trans h
theorem heap_at(w:World)(c:Array Value)(t:TypeId)(k:Nat)(hk:w.heap.size=k):(w.alloc (.cells c t)).heap[k]?=some (.cells c t (0,0)):=by
 subst hk;exact Go.heap_alloc_new w _
theorem boxes5(w:World)(o1:Obj)(v2 v3 v4 v5:Value)(t2 t3 t4 t5:TypeId)(W:World)(hW:((((w.alloc o1).alloc (.cells #[v2] t2)).alloc (.cells #[v3] t3)).alloc (.cells #[v4] t4)).alloc (.cells #[v5] t5)=W):
  W.heap[w.heap.size+1]?=some (.cells #[v2] t2 (0,0))∧W.heap[w.heap.size+1+1]?=some (.cells #[v3] t3 (0,0))∧W.heap[w.heap.size+1+1+1]?=some (.cells #[v4] t4 (0,0))∧W.heap[w.heap.size+1+1+1+1]?=some (.cells #[v5] t5 (0,0)):=by
 subst hW
 refine⟨heap_old (heap_old (heap_old (heap_at _ _ _ _ (by simp)) _) _) _,heap_old (heap_old (heap_at _ _ _ _ (by simp)) _) _,heap_old (heap_at _ _ _ _ (by simp)) _,heap_at _ _ _ _ (by simp)⟩
structure NearI (B:Nat) (most:Int) (l:List (Int×Int)) (W:World):Prop where
 c3:W.cell? ⟨B+1,0,none⟩=some (.int .i64 most)
 c4:W.cell? ⟨B+1+1,0,none⟩=some (.int .i64 (lowT l))
 c5:W.cell? ⟨B+1+1+1,0,none⟩=some (.int .i64 (highT l))
 c6:W.cell? ⟨B+1+1+1+1,0,none⟩=some (.bool false)
 f4:W.frozen? ⟨B+1+1,0,none⟩=false
 f5:W.frozen? ⟨B+1+1+1,0,none⟩=false
 f6:W.frozen? ⟨B+1+1+1+1,0,none⟩=false
 sz:B+5<W.heap.size
 ok:∀ x∈l,okT most x
structure NearX (B:Nat) (W:World):Prop where
 c4:W.cell? ⟨B+1+1,0,none⟩=some (.int .i64 0)
 c5:W.cell? ⟨B+1+1+1,0,none⟩=some (.int .i64 0)
 c6:W.cell? ⟨B+1+1+1+1,0,none⟩=some (.bool false)
theorem NearI.below{B:Nat}{most:Int}{l:List (Int×Int)}{W W':World}(h:NearI B most l W)(hb:Below W.heap.size W W'):NearI B most l W' :=
 ⟨(hb.cell (block_lt_of_cell h.c3)).trans h.c3,(hb.cell (block_lt_of_cell h.c4)).trans h.c4,(hb.cell (block_lt_of_cell h.c5)).trans h.c5,(hb.cell (block_lt_of_cell h.c6)).trans h.c6,
  (hb.frozen (block_lt_of_cell h.c4)).trans h.f4,(hb.frozen (block_lt_of_cell h.c5)).trans h.f5,(hb.frozen (block_lt_of_cell h.c6)).trans h.f6,Nat.lt_of_lt_of_le h.sz hb.size,h.ok⟩
theorem NearI.kept{B:Nat}{most:Int}{l:List (Int×Int)}{W W':World}{row:Option Nat}(h:NearI B most l W)(hg:W.grownBy W' row)(hr:∀ r,row=some r→∃ o:Obj,W.heap[r]?=some o∧o.isCells=false):NearI B most l W' :=
 ⟨cell_kept h.c3 hg hr,cell_kept h.c4 hg hr,cell_kept h.c5 hg hr,cell_kept h.c6 hg hr,(frozen_kept h.c4 hg hr).trans h.f4,(frozen_kept h.c5 hg hr).trans h.f5,(frozen_kept h.c6 hg hr).trans h.f6,Nat.lt_of_lt_of_le h.sz hg.size,h.ok⟩
theorem NearX.kept{B:Nat}{W W':World}{row:Option Nat}(h:NearX B W)(hg:W.grownBy W' row)(hr:∀ r,row=some r→∃ o:Obj,W.heap[r]?=some o∧o.isCells=false):NearX B W' :=
 ⟨cell_kept h.c4 hg hr,cell_kept h.c5 hg hr,cell_kept h.c6 hg hr⟩
theorem NearI.quits{B:Nat}{most:Int}{l:List (Int×Int)}{W:World}(h:NearI B most l W):NearX B (((W.setCell ⟨B+1+1,0,none⟩ (.int .i64 0)).setCell ⟨B+1+1+1,0,none⟩ (.int .i64 0)).setCell ⟨B+1+1+1+1,0,none⟩ (.bool false)):=by
 refine⟨?_,?_,?_⟩
 ·rw[World.cell?_setCell_other _ _ _ _ (by simp),World.cell?_setCell_other _ _ _ _ (by simp),World.cell?_setCell_same _ _ _ h.c4]
 ·rw[World.cell?_setCell_other _ _ _ _ (by simp),World.cell?_setCell_same _ _ _ (by rw[World.cell?_setCell_other _ _ _ _ (by simp)];exact h.c5)]
 ·rw[World.cell?_setCell_same _ _ _ (by rw[World.cell?_setCell_other _ _ _ _ (by simp),World.cell?_setCell_other _ _ _ _ (by simp)];exact h.c6)]
theorem NearI.stored{B:Nat}{most:Int}{l l':List (Int×Int)}{W:World}(h:NearI B most l W){v5 v6:Int}(h5:lowT l'=v5)(h6:highT l'=v6)(ok:∀ x∈l',okT most x):
  NearI B most l' ((W.setCell ⟨B+1+1,0,none⟩ (.int .i64 v5)).setCell ⟨B+1+1+1,0,none⟩ (.int .i64 v6)):=by
 refine⟨?_,?_,?_,?_,?_,?_,?_,?_,ok⟩
 ·rw[World.cell?_setCell_other _ _ _ _ (by simp),World.cell?_setCell_other _ _ _ _ (by simp)];exact h.c3
 ·rw[World.cell?_setCell_other _ _ _ _ (by simp),World.cell?_setCell_same _ _ _ h.c4,h5]
 ·rw[World.cell?_setCell_same _ _ _ (by rw[World.cell?_setCell_other _ _ _ _ (by simp)];exact h.c5),h6]
 ·rw[World.cell?_setCell_other _ _ _ _ (by simp),World.cell?_setCell_other _ _ _ _ (by simp)];exact h.c6
 ·rw[World.frozen?_setCell,World.frozen?_setCell];exact h.f4
 ·rw[World.frozen?_setCell,World.frozen?_setCell];exact h.f5
 ·rw[World.frozen?_setCell,World.frozen?_setCell];exact h.f6
 ·have:=h.sz;simpa using this
theorem near_kt{B:Nat}{W0 W W4:World}(hB:W0.heap.size=B)(hb:Below W0.heap.size W0 W)(hsz:B+5<W.heap.size)(h:Below W.heap.size W W4)(v5 v6:Value):
  KT B (B+5) W ((W4.setCell ⟨B+1+1,0,none⟩ v5).setCell ⟨B+1+1+1,0,none⟩ v6):=by
 subst hB
 refine⟨((h.mono hb.size).setCell (p:=⟨W0.heap.size+1+1,0,none⟩) (by show _≤W0.heap.size+1+1;omega) _).setCell (p:=⟨W0.heap.size+1+1+1,0,none⟩) (by show _≤W0.heap.size+1+1+1;omega) _,?_⟩
 rw[obj_other (g:=W0.heap.size+1+1+1) (k:=W0.heap.size+5) (by omega),obj_other (g:=W0.heap.size+1+1) (k:=W0.heap.size+5) (by omega),h.block _ hsz]
theorem near_below{W0 W:World}(hb:Below W0.heap.size W0 W)(v5 v6:Value):Below W0.heap.size W0 ((W.setCell ⟨W0.heap.size+1+1,0,none⟩ v5).setCell ⟨W0.heap.size+1+1+1,0,none⟩ v6) :=
 (hb.setCell (p:=⟨W0.heap.size+1+1,0,none⟩) (by show _≤W0.heap.size+1+1;omega) _).setCell (p:=⟨W0.heap.size+1+1+1,0,none⟩) (by show _≤W0.heap.size+1+1+1;omega) _
def nearAct (w:World) (b1 b2:Option Addr) (d1 d2 D m:Nat) (most:Int) (p:Int) (k:ByteArray):Act:={ tmps := #[.agg (tcells b1 d1 b2 d2 m D),.int .i64 most,.pointer (some ⟨w.heap.size,0,none⟩),.pointer (some ⟨w.heap.size+1,0,none⟩),.pointer (some ⟨w.heap.size+1+1,0,none⟩),.pointer (some ⟨w.heap.size+1+1+1,0,none⟩),.pointer (some ⟨w.heap.size+1+1+1+1,0,none⟩),.int .i64 p,.string k,undef,undef,undef,undef,undef,.agg #[.slice b1 m d1,.slice b2 m d2,.string (dec D)],.func (.func 241) #[] #[.pointer (some ⟨w.heap.size+1+1+1+1+1,0,none⟩)],.int .i64 p,.string k,undef,undef,undef,undef,undef,undef,undef,undef,undef,undef,undef,undef,undef,undef,undef,undef,undef,undef,undef,undef,undef,undef,undef,undef,undef,undef,undef,undef,undef,undef,undef,undef,undef,undef,undef,undef,undef,undef,undef,undef,undef,undef,undef,undef,undef,undef,undef,undef,undef,undef],defers:=[] }
theorem lowT_snoc(l:List (Int×Int))(x:Int×Int):lowT (l++[x])=lowT l+min (x.2*lgA x.1) (x.2*lgB x.1):=by simp[lowT]
theorem highT_snoc(l:List (Int×Int))(x:Int×Int):highT (l++[x])=highT l+max (x.2*lgA x.1) (x.2*lgB x.1):=by simp[highT]
theorem lgA_le(p:Int)(h1:2≤p)(h2:p≤97):0≤lgA p∧lgA p≤469762048:=by
 unfold lgA
 cases hq:digs p.toNat 62 26 with
 | none=>exact⟨Int.le_refl _,by decide⟩
 | some s =>
  have hfit:=(digs_fit p.toNat (by omega) (by omega) 26 s hq).out
  have:(2:Nat)^26=67108864:=rfl
  simp only
  omega
theorem prod_le{k a:Int}(hk : -10000000≤k∧k≤10000000)(ha:0≤a∧a≤469762049): -4697620490000000≤k*a∧k*a≤4697620490000000:=by
 have h:(k*a).natAbs≤10000000*469762049:=by rw[Int.natAbs_mul];exact Nat.mul_le_mul (by omega) (by omega)
 omega
theorem term_le{most:Int}(hm:most≤10000000){x:Int×Int}(hx:okT most x)(hp:2≤x.1∧x.1≤97):
  (-4697620490000000≤x.2*lgA x.1∧x.2*lgA x.1≤4697620490000000)∧(-4697620490000000≤x.2*lgB x.1∧x.2*lgB x.1≤4697620490000000):=by
 have ha:=lgA_le x.1 hp.1 hp.2
 have hk:=hx.1
 refine⟨prod_le (by omega) (by omega),prod_le (by omega) ?_⟩
 unfold lgB
 split<;>omega
theorem sums_le{most:Int}(hm:most≤10000000):∀ (l:List (Int×Int)),(∀ x∈l,okT most x∧2≤x.1∧x.1≤97) →
  (-((l.length:Int)*4697620490000000)≤lowT l∧lowT l≤(l.length:Int)*4697620490000000)∧(-((l.length:Int)*4697620490000000)≤highT l∧highT l≤(l.length:Int)*4697620490000000)
 | [],_=>⟨⟨Int.le_refl _,Int.le_refl _⟩,⟨Int.le_refl _,Int.le_refl _⟩⟩
 | x::l,h=>by
  have ih:=sums_le hm l (fun y hy=>h y (List.mem_cons_of_mem _ hy))
  have hx:=h x (List.mem_cons_self ..)
  have ht:=term_le hm hx.1 hx.2
  have e1:lowT (x::l)=min (x.2*lgA x.1) (x.2*lgB x.1)+lowT l:=by simp[lowT]
  have e2:highT (x::l)=max (x.2*lgA x.1) (x.2*lgB x.1)+highT l:=by simp[highT]
  rw[e1,e2,List.length_cons]
  omega
theorem near_any(w:World)(b1 b2:Option Addr)(d1 d2 D:Nat)(tl:List (Int×Int))(most:Int)(hm0:0≤most)(hm:most≤10000000)(hl:tl.length≤1000)
  (hr1:Rd w b1 (ints (tl.map Prod.fst))) (hr2:Rd w b2 (strs (tl.map fun x=>itx x.2))) (hp:∀ x∈tl,2≤x.1∧x.1≤97) (hz:∀ x∈tl,ZNum x.2) (L:Laid w) :
  Gives Tryz.prog 210 #[.agg (tcells b1 d1 b2 d2 tl.length D),.int .i64 most] w (nearV most tl):=by
 unfold Gives
 refine(callsIn_wide (n:=3)).1 ?_
 refine callsIn_of_wp_marks Tryz.func210 rfl trivial ?_ rfl
 simp only[Tryz.ntmps210,List.size_toArray,List.length_cons,List.length_nil,Nat.reduceAdd,Nat.reduceSub,Array.replicate_succ,Array.replicate_zero,List.push_toArray,List.append_toArray,List.nil_append,List.cons_append]
 have Hsz:Hid (∀ x∈tl,∀ W,Below w.heap.size w W→Gives Tryz.prog 239 #[.string (itx x.2)] W (if -9223372036854775808≤x.2∧x.2≤9223372036854775807 then .tuple #[.int .i64 x.2,.bool true] else .tuple #[.int .i64 0,.bool false])):=fun x hx W hW=>smallz_any W x.2 (hz x hx) (L.below hW)
 have Hfa:Hid (∀ x∈tl,∀ W,Gives Tryz.prog 240 #[.int .i64 x.1] W (fastV x.1.toNat)):=fun x hx W=>by
  have h1:=hp x hx
  obtain⟨q,hq⟩:=Int.eq_ofNat_of_zero_le (show 0≤x.1 by omega)
  have:=fast_any W q (by omega) (by omega)
  rw[hq]
  exact this
 clear L hz
 gi_wp2_with fail
 obtain⟨w0,hw0⟩:∃ w0,((((w.alloc (Obj.cells (tcells b1 d1 b2 d2 tl.length D) 163)).alloc (Obj.cells #[Value.int IntKind.i64 most] 3)).alloc (Obj.cells #[Value.int IntKind.i64 0] 3)).alloc (Obj.cells #[Value.int IntKind.i64 0] 3)).alloc (Obj.cells #[Value.bool false] 4)=w0:=⟨_,rfl⟩
 have hsz0:w0.heap.size=w.heap.size+5:=by rw[← hw0];simp
 have hB0:Below w.heap.size w w0:=by rw[← hw0];exact(((((Below.refl _ w).alloc nr_ _).alloc (by simp) _).alloc (by simp;omega) _).alloc (by simp;omega) _).alloc (by simp;omega) _
 have hbox:=boxes5 w _ _ _ _ _ _ _ _ _ w0 hw0
 rw[hw0]
 refine⟨trivial,?_⟩
 refine(callsIn_wide.2 (all_any w0 b1 b2 d1 d2 tl.length D)).mono ?_
 rintro e w' ⟨rfl,rfl⟩
 rw[hsz0]
 have hB5:(w0.alloc (.cells (tcells b1 d1 b2 d2 tl.length D) 163)).heap[w.heap.size+5]?=some (.cells (tcells b1 d1 b2 d2 tl.length D) 163 (0,0)):=by
  rw[← hsz0];exact Go.heap_alloc_new w0 _
 have hB1:Below w.heap.size w (w0.alloc (.cells (tcells b1 d1 b2 d2 tl.length D) 163)):=hB0.alloc (by omega) _
 have hsz1:(w0.alloc (.cells (tcells b1 d1 b2 d2 tl.length D) 163)).heap.size=w.heap.size+6:=by rw[World.size_alloc,hsz0]
 have hI1:NearI w.heap.size most [] (w0.alloc (.cells (tcells b1 d1 b2 d2 tl.length D) 163)):=by
  obtain⟨h1,h2,h3,h4⟩:=hbox
  have h1:=heap_old h1 (.cells (tcells b1 d1 b2 d2 tl.length D) 163)
  have h2:=heap_old h2 (.cells (tcells b1 d1 b2 d2 tl.length D) 163)
  have h3:=heap_old h3 (.cells (tcells b1 d1 b2 d2 tl.length D) 163)
  have h4:=heap_old h4 (.cells (tcells b1 d1 b2 d2 tl.length D) 163)
  exact⟨(one_cell h1).1,(one_cell h2).1,(one_cell h3).1,(one_cell h4).1,(one_cell h2).2,(one_cell h3).2,(one_cell h4).2,by rw[hsz1];omega,fun x hx=>by cases hx⟩
 clear hB0 hw0 hbox
 generalize w0.alloc (.cells (tcells b1 d1 b2 d2 tl.length D) 163)=w1 at *
 gi_wp2_with fail
 refine wpIn_rangeFunc_ownF rfl (by decide) (gf:=241) (lb := #[.pointer (some ⟨w.heap.size+5,0,none⟩)]) rfl trivial (enters_of Tryz.func241 (by kernel_rfl) rfl)
  (all_stops 2 (by decide) w w1 hB1 (w.heap.size+5) b1 b2 d1 d2 D tl hl hB5 hr1 hr2) kt_t (kt_b (by rw[hsz1];omega) (by rw[hsz1];omega)) (Below.refl _ _) (fun _=>rfl)
  (fun pre W=>NearI w.heap.size most (pre.map Subtype.val) W∧Below w.heap.size w W)
  (fun c pre W=>(c = .ret∧(∃ x∈tl,¬ okT most x)∧NearX w.heap.size W)∧Below w.heap.size w W)
  (OwnFrom.and (Own.from (fun s A B row hs hg hr=>hs.kept hg hr) _) (ownFrom_below nr_ (by rw[hsz1];omega)))
  (fun c=>OwnFrom.and (Own.from (fun s A B row hs hg hr=>⟨hs.1,hs.2.1,hs.2.2.kept hg hr⟩) _) (ownFrom_below nr_ (by rw[hsz1];omega)))
  ⟨hI1,hB1⟩
  (fun x=>nearAct w b1 b2 d1 d2 D tl.length most x.1.1 (itx x.1.2)) ?assign ?body ?done ?stop
 case assign =>
  intro l x W K hK
  unfold nearAct at hK
  gi_wp2
  exact hK
 case body =>
  rintro l pre ⟨⟨p,k⟩,hmem⟩ W ⟨hI,hB⟩ hlen
  have HI:=hd_ hI
  have HB:=hd_ hB
  have hpp:=hp _ hmem
  have hsm:=Hsz.out _ hmem W hB
  have hfa:=Hfa.out _ hmem
  simp only at hpp hsm hfa
  have Hmem:=hd_ hmem
  unfold nearAct
  clear hI hB hr1 hr2 hI1 hB1 hB5
  have hc3:=HI.out.c3
  have hc4:=HI.out.c4
  have hc5:=HI.out.c5
  have hc6:=HI.out.c6
  have hf4:=HI.out.f4
  have hf5:=HI.out.f5
  have hf6:=HI.out.f6
  by_cases hk64 : -9223372036854775808≤k∧k≤9223372036854775807
  ·rw[if_pos hk64] at hsm
   have hneg:IntKind.i64.wrap (-most) = -most:=iw_ _ (by omega)
   by_cases hk1:k≤most
   ·by_cases hk2 : -most≤k
    ·have hfa2:∀ W,Gives Tryz.prog 240 #[.int .i64 p] W (fastV p.toNat):=hfa
     by_cases hd:(digs p.toNat 62 26).isSome=true
     ·obtain⟨ds,hds⟩:=Option.isSome_iff_exists.1 hd
      have Hds:=hd_ hds
      have Hok:Hid (okT most (p,k)):=⟨⟨hk2,hk1⟩,hd⟩
      have hfv:fastV p.toNat = .tuple #[.int .i64 ds.2.2,.bool true]:=by unfold fastV;rw[hds]
      rw[hfv] at hfa2
      have Hlg:Hid (lgA p=(ds.2.2:Int)):=by show _=_;unfold lgA;rw[hds]
      have hfit:=(digs_fit p.toNat (by omega) (by omega) 26 ds hds).out
      have hout:ds.2.2≤469762048:=by have:(2:Nat)^26=67108864:=rfl;omega
      have hpl:(pre.map Subtype.val).length≤1000:=by rw[List.length_map];omega
      have hso:=sums_le hm (pre.map Subtype.val) (fun x hx=>⟨HI.out.ok x hx,by
       obtain⟨y,_,rfl⟩:=List.mem_map.1 hx
       exact hp _ y.2⟩)
      have hterm:=term_le hm Hok.out hpp
      simp only at hterm
      have Hsn1:Hid (lowT ((pre++[(⟨(p,k),hmem⟩:{x // x∈tl})]).map Subtype.val)=lowT (pre.map Subtype.val)+min (k*lgA p) (k*lgB p)):=by
       show _=_
       rw[List.map_append];exact lowT_snoc _ _
      have Hsn2:Hid (highT ((pre++[(⟨(p,k),hmem⟩:{x // x∈tl})]).map Subtype.val)=highT (pre.map Subtype.val)+max (k*lgA p) (k*lgB p)):=by
       show _=_
       rw[List.map_append];exact highT_snoc _ _
      have Hall:Hid (∀ x∈(pre++[(⟨(p,k),hmem⟩:{x // x∈tl})]).map Subtype.val,okT most x):=fun x hx=>by
       rw[List.map_append] at hx
       rcases List.mem_append.1 hx with h|h
       ·exact HI.out.ok x h
       ·obtain rfl:=List.mem_singleton.1 h;exact Hok.out
      have hlB:lgB p=if p=2 then (ds.2.2:Int) else (ds.2.2:Int)+1:=by unfold lgB;rw[Hlg.out]
      rw[Hlg.out] at hterm
      rw[Hlg.out] at Hsn1 Hsn2
      have hk1':¬ most<k:=by omega
      have hk2':¬ k < -most:=by omega
      have hwb:IntKind.i64.wrap ((ds.2.2:Int)+1)=(ds.2.2:Int)+1:=iw_ _ (by omega)
      clear hd hds hfv hfit hfa hlen hk64
      by_cases hp2:p=2
      ·rw[if_pos hp2] at hlB
       subst hp2
       rw[hlB] at hterm Hsn1 Hsn2
       rw[Int.min_self] at Hsn1
       rw[Int.max_self] at Hsn2
       have hw1:IntKind.i64.wrap (k*(ds.2.2:Int))=k*(ds.2.2:Int):=iw_ _ (by omega)
       clear hlB
       generalize (ds.2.2:Int)=A at *
       obtain⟨lo,hlo⟩:∃ lo,lowT (pre.map Subtype.val)=lo:=⟨_,rfl⟩
       obtain⟨hi,hhi⟩:∃ hi,highT (pre.map Subtype.val)=hi:=⟨_,rfl⟩
       rw[hlo] at hso Hsn1
       rw[hhi] at hso Hsn2
       have Hlo:=hd_ hlo
       have Hhi:=hd_ hhi
       clear hlo hhi
       have hw3:IntKind.i64.wrap (lo+k*A)=lo+k*A:=iw_ _ (by omega)
       have hw4':IntKind.i64.wrap (hi+k*A)=hi+k*A:=iw_ _ (by omega)
       have Hterm:=hd_ hterm
       have Hso:=hd_ hso
       gi_wp2_with fail
       refine⟨trivial,?_⟩
       refine(CallsIn.inRound l (callsIn_wide.2 hsm)).mono ?_
       rintro e w2 ⟨rfl,hb2⟩
       have HI2:=hd_ (HI.out.below hb2)
       have HB2:=hd_ (HB.out.trans (hb2.mono HB.out.size))
       have Hk2:=hd_ (hb2)
       have hc3:=HI2.out.c3
       have hc4:=HI2.out.c4
       have hc5:=HI2.out.c5
       have hc6:=HI2.out.c6
       have hf4:=HI2.out.f4
       have hf5:=HI2.out.f5
       have hf6:=HI2.out.f6
       clear hsm hb2
       gi_wp2_with fail
       refine⟨trivial,?_⟩
       refine(CallsIn.inRound l (callsIn_wide.2 (hfa2 w2))).mono ?_
       rintro e w3 ⟨rfl,hb3⟩
       have HI3:=hd_ (HI2.out.below hb3)
       have HB3:=hd_ (HB2.out.trans (hb3.mono HB2.out.size))
       have Hk3:=hd_ (Hk2.out.trans (hb3.mono Hk2.out.size))
       have hc3:=HI3.out.c3
       have hc4:=HI3.out.c4
       have hc5:=HI3.out.c5
       have hc6:=HI3.out.c6
       have hf4:=HI3.out.f4
       have hf5:=HI3.out.f5
       have hf6:=HI3.out.f6
       clear hfa2 hb3
       gi_wp2_with fail
       have q0:=@CellW.h
       have q9:Nonempty (CellW ⟨w.heap.size+1+1,0,none⟩ (.int .i64 lo)):=⟨⟨w3,by rw[HI3.out.c4,Hlo.out]⟩⟩
       have q8:Nonempty (CellW ⟨w.heap.size+1+1+1,0,none⟩ (.int .i64 hi)):=⟨⟨w3,by rw[HI3.out.c5,Hhi.out]⟩⟩
       refine wpIn_region_readers2 [(20,0),(1,1),(1,2),(1,3),(1,4),(1,5),(1,6),(1,7),(1,8),(21,9),(1,10),(1,11),(1,12),(1,13),(1,14),(1,15),(1,16),(1,17),(0,18),(0,19)]
        [(18,fun w'=>∃ p:CellW ⟨w.heap.size+1+1,0,none⟩ (.int .i64 lo),w'=p.w),(19,fun w'=>∃ p:CellW ⟨w.heap.size+1+1+1,0,none⟩ (.int .i64 hi),w'=p.w)]
        (by kernel_rfl) (by kernel_rfl) ⟨.inr ⟨⟨{ w3 with drawn:=w3.drawn+1 },HI3.out.c4.trans (by rw[Hlo.out])⟩,rfl⟩,.inr ⟨⟨{ w3 with drawn:=w3.drawn+1 },HI3.out.c5.trans (by rw[Hhi.out])⟩,rfl⟩,trivial⟩ ?_
       refine walkR2_read (s:=18) _ (List.mem_cons_self ..) rfl ?_
       simp only[dz_,tsc_,tz_]
       go_big_quiet_step (fail)
       refine wpQuiet_nil ?_
       iterate 8 (refine walkR2_any ?_;simp only[dsc_,dz_,tsc_,tz_];go_big_quiet_step (fail);refine wpQuiet_nil ?_)
       refine walkR2_read (s:=19) _ (List.mem_cons_of_mem _ (List.mem_cons_self ..)) rfl ?_
       simp only[dsc_,dz_,tsc_,tz_]
       go_big_quiet_step (fail)
       refine wpQuiet_nil ?_
       iterate 8 (refine walkR2_any ?_;simp only[dsc_,dz_,tsc_,tz_];go_big_quiet_step (fail);refine wpQuiet_nil ?_)
       clear q0 q8 q9
       obtain⟨w4,hw4⟩:∃ w4:World,{ heap:=w3.heap,tape:=w3.tape,drawn:=w3.drawn+1,os:=w3.os,output:=w3.output }=w4:=⟨_,rfl⟩
       rw[hw4]
       have HI4:Hid (NearI w.heap.size most (pre.map Subtype.val) w4):=by rw[← hw4];exact HI3.out.below ⟨rfl,rfl,rfl,Nat.le_refl _,fun _ _=>rfl⟩
       have HB4:Hid (Below w.heap.size w w4):=by rw[← hw4];exact HB3.out.trans ⟨rfl,rfl,rfl,Nat.le_refl _,fun _ _=>rfl⟩
       have Hk4:Hid (Below W.heap.size W w4):=by rw[← hw4];exact Hk3.out.trans ⟨rfl,rfl,rfl,Nat.le_refl _,fun _ _=>rfl⟩
       clear hw4 hc3 hc4 hc5 hc6 hf4 hf5 hf6
       have hc4:=HI4.out.c4
       have hc5:=HI4.out.c5
       have hf4:=HI4.out.f4
       have hf5:=HI4.out.f5
       refine walkR2_move ?_
       simp only[dsc_,dz_,tsc_,tz_]
       go_wp2_with fail
       obtain⟨v5,hv5⟩:∃ v5:Int,lo+k*A=v5:=⟨_,rfl⟩
       obtain⟨v6,hv6⟩:∃ v6:Int,hi+k*A=v6:=⟨_,rfl⟩
       rw[hv5]
       rw[hv6]
       have hc52:(w4.setCell ⟨w.heap.size+1+1,0,none⟩ (.int .i64 v5)).cell? ⟨w.heap.size+1+1+1,0,none⟩=some (.int .i64 hi):=by
        rw[World.cell?_setCell_other _ _ _ _ (by simp),HI4.out.c5,Hhi.out]
       have hf52:(w4.setCell ⟨w.heap.size+1+1,0,none⟩ (.int .i64 v5)).frozen? ⟨w.heap.size+1+1+1,0,none⟩=false:=by rw[World.frozen?_setCell];exact HI4.out.f5
       refine⟨⟨.inl rfl,.inr ⟨⟨w4.setCell ⟨w.heap.size+1+1,0,none⟩ (.int .i64 v5),hc52⟩,rfl⟩,trivial⟩,?_⟩
       clear hc4 hc5 hf4 hf5
       refine walkR2_move ?_
       simp only[dsc_,dz_,tsc_,tz_]
       go_wp2_with fail
       refine⟨⟨.inl rfl,.inl rfl,trivial⟩,?_⟩
       simp only[walkR2]
       exact⟨(keeps_of_below Hk4.out).trans ((KeepsOthers.setCell _ _ _).trans (KeepsOthers.setCell _ _ _)),near_kt rfl HB.out HI.out.sz Hk4.out _ _,HI4.out.stored (Hsn1.out.trans hv5) (Hsn2.out.trans hv6) Hall.out,near_below HB4.out _ _⟩
      ·rw[if_neg hp2] at hlB
       rw[hlB] at hterm Hsn1 Hsn2
       have hpe:(p==2)=false:=by rw[beq_eq_false_iff_ne];exact hp2
       have hw1:IntKind.i64.wrap (k*(ds.2.2:Int))=k*(ds.2.2:Int):=iw_ _ (by omega)
       have hw2:IntKind.i64.wrap (k*((ds.2.2:Int)+1))=k*((ds.2.2:Int)+1):=iw_ _ (by omega)
       clear hlB
       generalize (ds.2.2:Int)=A at *
       obtain⟨lo,hlo⟩:∃ lo,lowT (pre.map Subtype.val)=lo:=⟨_,rfl⟩
       obtain⟨hi,hhi⟩:∃ hi,highT (pre.map Subtype.val)=hi:=⟨_,rfl⟩
       rw[hlo] at hso Hsn1
       rw[hhi] at hso Hsn2
       have Hlo:=hd_ hlo
       have Hhi:=hd_ hhi
       clear hlo hhi
       have hw3:IntKind.i64.wrap (lo+min (k*A) (k*(A+1)))=lo+min (k*A) (k*(A+1)):=iw_ _ (by omega)
       have hw4':IntKind.i64.wrap (hi+max (k*A) (k*(A+1)))=hi+max (k*A) (k*(A+1)):=iw_ _ (by omega)
       have Hterm:=hd_ hterm
       have Hso:=hd_ hso
       gi_wp2_with fail
       refine⟨trivial,?_⟩
       refine(CallsIn.inRound l (callsIn_wide.2 hsm)).mono ?_
       rintro e w2 ⟨rfl,hb2⟩
       have HI2:=hd_ (HI.out.below hb2)
       have HB2:=hd_ (HB.out.trans (hb2.mono HB.out.size))
       have Hk2:=hd_ (hb2)
       have hc3:=HI2.out.c3
       have hc4:=HI2.out.c4
       have hc5:=HI2.out.c5
       have hc6:=HI2.out.c6
       have hf4:=HI2.out.f4
       have hf5:=HI2.out.f5
       have hf6:=HI2.out.f6
       clear hsm hb2
       gi_wp2_with fail
       refine⟨trivial,?_⟩
       refine(CallsIn.inRound l (callsIn_wide.2 (hfa2 w2))).mono ?_
       rintro e w3 ⟨rfl,hb3⟩
       have HI3:=hd_ (HI2.out.below hb3)
       have HB3:=hd_ (HB2.out.trans (hb3.mono HB2.out.size))
       have Hk3:=hd_ (Hk2.out.trans (hb3.mono Hk2.out.size))
       have hc3:=HI3.out.c3
       have hc4:=HI3.out.c4
       have hc5:=HI3.out.c5
       have hc6:=HI3.out.c6
       have hf4:=HI3.out.f4
       have hf5:=HI3.out.f5
       have hf6:=HI3.out.f6
       clear hfa2 hb3
       gi_wp2_with fail
       have q0:=@CellW.h
       have q9:Nonempty (CellW ⟨w.heap.size+1+1,0,none⟩ (.int .i64 lo)):=⟨⟨w3,by rw[HI3.out.c4,Hlo.out]⟩⟩
       have q8:Nonempty (CellW ⟨w.heap.size+1+1+1,0,none⟩ (.int .i64 hi)):=⟨⟨w3,by rw[HI3.out.c5,Hhi.out]⟩⟩
       refine wpIn_region_readers2 [(20,0),(1,1),(1,2),(1,3),(1,4),(1,5),(1,6),(1,7),(1,8),(21,9),(1,10),(1,11),(1,12),(1,13),(1,14),(1,15),(1,16),(1,17),(0,18),(0,19)]
        [(18,fun w'=>∃ p:CellW ⟨w.heap.size+1+1,0,none⟩ (.int .i64 lo),w'=p.w),(19,fun w'=>∃ p:CellW ⟨w.heap.size+1+1+1,0,none⟩ (.int .i64 hi),w'=p.w)]
        (by kernel_rfl) (by kernel_rfl) ⟨.inr ⟨⟨{ w3 with drawn:=w3.drawn+1 },HI3.out.c4.trans (by rw[Hlo.out])⟩,rfl⟩,.inr ⟨⟨{ w3 with drawn:=w3.drawn+1 },HI3.out.c5.trans (by rw[Hhi.out])⟩,rfl⟩,trivial⟩ ?_
       refine walkR2_read (s:=18) _ (List.mem_cons_self ..) rfl ?_
       simp only[dz_,tsc_,tz_]
       go_big_quiet_step (fail)
       refine wpQuiet_nil ?_
       iterate 8 (refine walkR2_any ?_;simp only[dsc_,dz_,tsc_,tz_];go_big_quiet_step (fail);refine wpQuiet_nil ?_)
       refine walkR2_read (s:=19) _ (List.mem_cons_of_mem _ (List.mem_cons_self ..)) rfl ?_
       simp only[dsc_,dz_,tsc_,tz_]
       go_big_quiet_step (fail)
       refine wpQuiet_nil ?_
       iterate 8 (refine walkR2_any ?_;simp only[dsc_,dz_,tsc_,tz_];go_big_quiet_step (fail);refine wpQuiet_nil ?_)
       clear q0 q8 q9
       obtain⟨w4,hw4⟩:∃ w4:World,{ heap:=w3.heap,tape:=w3.tape,drawn:=w3.drawn+1,os:=w3.os,output:=w3.output }=w4:=⟨_,rfl⟩
       rw[hw4]
       have HI4:Hid (NearI w.heap.size most (pre.map Subtype.val) w4):=by rw[← hw4];exact HI3.out.below ⟨rfl,rfl,rfl,Nat.le_refl _,fun _ _=>rfl⟩
       have HB4:Hid (Below w.heap.size w w4):=by rw[← hw4];exact HB3.out.trans ⟨rfl,rfl,rfl,Nat.le_refl _,fun _ _=>rfl⟩
       have Hk4:Hid (Below W.heap.size W w4):=by rw[← hw4];exact Hk3.out.trans ⟨rfl,rfl,rfl,Nat.le_refl _,fun _ _=>rfl⟩
       clear hw4 hc3 hc4 hc5 hc6 hf4 hf5 hf6
       have hc4:=HI4.out.c4
       have hc5:=HI4.out.c5
       have hf4:=HI4.out.f4
       have hf5:=HI4.out.f5
       refine walkR2_move ?_
       simp only[dsc_,dz_,tsc_,tz_]
       go_wp2_with fail
       obtain⟨v5,hv5⟩:∃ v5:Int,lo+min (k*A) (k*(A+1))=v5:=⟨_,rfl⟩
       obtain⟨v6,hv6⟩:∃ v6:Int,hi+max (k*A) (k*(A+1))=v6:=⟨_,rfl⟩
       rw[hv5]
       rw[hv6]
       have hc52:(w4.setCell ⟨w.heap.size+1+1,0,none⟩ (.int .i64 v5)).cell? ⟨w.heap.size+1+1+1,0,none⟩=some (.int .i64 hi):=by
        rw[World.cell?_setCell_other _ _ _ _ (by simp),HI4.out.c5,Hhi.out]
       have hf52:(w4.setCell ⟨w.heap.size+1+1,0,none⟩ (.int .i64 v5)).frozen? ⟨w.heap.size+1+1+1,0,none⟩=false:=by rw[World.frozen?_setCell];exact HI4.out.f5
       refine⟨⟨.inl rfl,.inr ⟨⟨w4.setCell ⟨w.heap.size+1+1,0,none⟩ (.int .i64 v5),hc52⟩,rfl⟩,trivial⟩,?_⟩
       clear hc4 hc5 hf4 hf5
       refine walkR2_move ?_
       simp only[dsc_,dz_,tsc_,tz_]
       go_wp2_with fail
       refine⟨⟨.inl rfl,.inl rfl,trivial⟩,?_⟩
       simp only[walkR2]
       exact⟨(keeps_of_below Hk4.out).trans ((KeepsOthers.setCell _ _ _).trans (KeepsOthers.setCell _ _ _)),near_kt rfl HB.out HI.out.sz Hk4.out _ _,HI4.out.stored (Hsn1.out.trans hv5) (Hsn2.out.trans hv6) Hall.out,near_below HB4.out _ _⟩
     ·have Hbad:Hid (∃ x∈tl,¬ okT most x):=⟨(p,k),Hmem.out,fun h=>hd h.2⟩
      have hfv:fastV p.toNat = .tuple #[.int .i64 0,.bool false]:=by
       unfold fastV
       cases hq:digs p.toNat 62 26 with
       | none=>rfl
       | some s=>rw[hq] at hd;exact absurd rfl hd
      rw[hfv] at hfa2
      have hk1':¬ most<k:=by omega
      have hk2':¬ k < -most:=by omega
      clear hd hfv hfa
      gi_wp2_with fail
      refine⟨trivial,?_⟩
      refine(CallsIn.inRound l (callsIn_wide.2 hsm)).mono ?_
      rintro e w2 ⟨rfl,hb2⟩
      have HI2:=hd_ (HI.out.below hb2)
      have HB2:=hd_ (HB.out.trans (hb2.mono HB.out.size))
      have Hk2:=hd_ (hb2)
      have hc3:=HI2.out.c3
      have hc4:=HI2.out.c4
      have hc5:=HI2.out.c5
      have hc6:=HI2.out.c6
      have hf4:=HI2.out.f4
      have hf5:=HI2.out.f5
      have hf6:=HI2.out.f6
      clear hsm hb2
      gi_wp2_with fail
      refine⟨trivial,?_⟩
      refine(CallsIn.inRound l (callsIn_wide.2 (hfa2 w2))).mono ?_
      rintro e w3 ⟨rfl,hb3⟩
      have HI3:=hd_ (HI2.out.below hb3)
      have HB3:=hd_ (HB2.out.trans (hb3.mono HB2.out.size))
      have Hk3:=hd_ (Hk2.out.trans (hb3.mono Hk2.out.size))
      have hc3:=HI3.out.c3
      have hc4:=HI3.out.c4
      have hc5:=HI3.out.c5
      have hc6:=HI3.out.c6
      have hf4:=HI3.out.f4
      have hf5:=HI3.out.f5
      have hf6:=HI3.out.f6
      clear hfa2 hb3
      gi_wp2
      exact⟨(keeps_of_below Hk3.out).trans (((KeepsOthers.setCell _ _ _).trans (KeepsOthers.setCell _ _ _)).trans (KeepsOthers.setCell _ _ _)),⟨rfl,Hbad.out,HI3.out.quits⟩,
       ((HB3.out.setCell (p:=⟨w.heap.size+1+1,0,none⟩) (by simp;omega) _).setCell (p:=⟨w.heap.size+1+1+1,0,none⟩) (by simp;omega) _).setCell (p:=⟨w.heap.size+1+1+1+1,0,none⟩) (by simp;omega) _⟩
    ·have Hbad:Hid (∃ x∈tl,¬ okT most x):=⟨(p,k),Hmem.out,fun h=>hk2 h.1.1⟩
     have hk1':¬ most<k:=by omega
     have hk2':k < -most:=by omega
     clear hfa
     gi_wp2_with fail
     refine⟨trivial,?_⟩
     refine(CallsIn.inRound l (callsIn_wide.2 hsm)).mono ?_
     rintro e w2 ⟨rfl,hb2⟩
     have HI2:=hd_ (HI.out.below hb2)
     have HB2:=hd_ (HB.out.trans (hb2.mono HB.out.size))
     have Hk2:=hd_ (hb2)
     have hc3:=HI2.out.c3
     have hc4:=HI2.out.c4
     have hc5:=HI2.out.c5
     have hc6:=HI2.out.c6
     have hf4:=HI2.out.f4
     have hf5:=HI2.out.f5
     have hf6:=HI2.out.f6
     clear hsm hb2
     gi_wp2
     exact⟨(keeps_of_below Hk2.out).trans (((KeepsOthers.setCell _ _ _).trans (KeepsOthers.setCell _ _ _)).trans (KeepsOthers.setCell _ _ _)),⟨rfl,Hbad.out,HI2.out.quits⟩,
      ((HB2.out.setCell (p:=⟨w.heap.size+1+1,0,none⟩) (by simp;omega) _).setCell (p:=⟨w.heap.size+1+1+1,0,none⟩) (by simp;omega) _).setCell (p:=⟨w.heap.size+1+1+1+1,0,none⟩) (by simp;omega) _⟩
   ·have Hbad:Hid (∃ x∈tl,¬ okT most x):=⟨(p,k),Hmem.out,fun h=>hk1 h.1.2⟩
    have hk1':most<k:=by omega
    clear hfa
    gi_wp2_with fail
    refine⟨trivial,?_⟩
    refine(CallsIn.inRound l (callsIn_wide.2 hsm)).mono ?_
    rintro e w2 ⟨rfl,hb2⟩
    have HI2:=hd_ (HI.out.below hb2)
    have HB2:=hd_ (HB.out.trans (hb2.mono HB.out.size))
    have Hk2:=hd_ (hb2)
    have hc3:=HI2.out.c3
    have hc4:=HI2.out.c4
    have hc5:=HI2.out.c5
    have hc6:=HI2.out.c6
    have hf4:=HI2.out.f4
    have hf5:=HI2.out.f5
    have hf6:=HI2.out.f6
    clear hsm hb2
    gi_wp2
    exact⟨(keeps_of_below Hk2.out).trans (((KeepsOthers.setCell _ _ _).trans (KeepsOthers.setCell _ _ _)).trans (KeepsOthers.setCell _ _ _)),⟨rfl,Hbad.out,HI2.out.quits⟩,
     ((HB2.out.setCell (p:=⟨w.heap.size+1+1,0,none⟩) (by simp;omega) _).setCell (p:=⟨w.heap.size+1+1+1,0,none⟩) (by simp;omega) _).setCell (p:=⟨w.heap.size+1+1+1+1,0,none⟩) (by simp;omega) _⟩
  ·rw[if_neg hk64] at hsm
   have Hbad:Hid (∃ x∈tl,¬ okT most x):=⟨(p,k),Hmem.out,fun h=>hk64 ⟨by have:=h.1.1;simp only at this;omega,by have:=h.1.2;simp only at this;omega⟩⟩
   clear hfa
   gi_wp2_with fail
   refine⟨trivial,?_⟩
   refine(CallsIn.inRound l (callsIn_wide.2 hsm)).mono ?_
   rintro e w2 ⟨rfl,hb2⟩
   have HI2:=hd_ (HI.out.below hb2)
   have HB2:=hd_ (HB.out.trans (hb2.mono HB.out.size))
   have Hk2:=hd_ (hb2)
   have hc3:=HI2.out.c3
   have hc4:=HI2.out.c4
   have hc5:=HI2.out.c5
   have hc6:=HI2.out.c6
   have hf4:=HI2.out.f4
   have hf5:=HI2.out.f5
   have hf6:=HI2.out.f6
   clear hsm hb2
   gi_wp2
   exact⟨(keeps_of_below Hk2.out).trans (((KeepsOthers.setCell _ _ _).trans (KeepsOthers.setCell _ _ _)).trans (KeepsOthers.setCell _ _ _)),⟨rfl,Hbad.out,HI2.out.quits⟩,
    ((HB2.out.setCell (p:=⟨w.heap.size+1+1,0,none⟩) (by simp;omega) _).setCell (p:=⟨w.heap.size+1+1+1,0,none⟩) (by simp;omega) _).setCell (p:=⟨w.heap.size+1+1+1+1,0,none⟩) (by simp;omega) _⟩
 case done =>
  rintro D' ys W hD rfl ⟨hI,hB⟩ hK
  rw[List.attach_map_subtype_val] at hI
  have hv:nearV most tl = .tuple #[.int .i64 (lowT tl),.int .i64 (highT tl),.bool true]:=by unfold nearV;rw[if_pos hI.ok]
  have Hv:=hd_ hv
  have HI:=hd_ hI
  have HB:=hd_ hB
  have HK:=hd_ hK
  have hc4:=HI.out.c4
  have hc5:=HI.out.c5
  have hc6:=HI.out.c6
  have hf4:=HI.out.f4
  have hf5:=HI.out.f5
  have hf6:=HI.out.f6
  clear hv hI hB hK hr1 hr2 hI1 hB1 hB5 Hsz Hfa
  generalize lowT tl=lo at *
  generalize highT tl=hi at *
  gi_wp2_with fail
  gi_region
  gi_wp2
  clear hc4 hc5 hc6 hf4 hf5 hf6
  have e4:(((W.setCell { block:=w.heap.size+1+1,off:=0 } (Value.int IntKind.i64 lo)).setCell { block:=w.heap.size+1+1+1,off:=0 } (Value.int IntKind.i64 hi)).setCell { block:=w.heap.size+1+1+1+1,off:=0 } (Value.bool true)).drew.cell? ⟨w.heap.size+1+1,0,none⟩=some (.int .i64 lo):=by
   show World.cell? (((W.setCell { block:=w.heap.size+1+1,off:=0 } (Value.int IntKind.i64 lo)).setCell { block:=w.heap.size+1+1+1,off:=0 } (Value.int IntKind.i64 hi)).setCell { block:=w.heap.size+1+1+1+1,off:=0 } (Value.bool true)) _=_
   rw[World.cell?_setCell_other _ _ _ _ (by simp),World.cell?_setCell_other _ _ _ _ (by simp),World.cell?_setCell_same _ _ _ HI.out.c4]
  have e5:(((W.setCell { block:=w.heap.size+1+1,off:=0 } (Value.int IntKind.i64 lo)).setCell { block:=w.heap.size+1+1+1,off:=0 } (Value.int IntKind.i64 hi)).setCell { block:=w.heap.size+1+1+1+1,off:=0 } (Value.bool true)).drew.cell? ⟨w.heap.size+1+1+1,0,none⟩=some (.int .i64 hi):=by
   show World.cell? (((W.setCell { block:=w.heap.size+1+1,off:=0 } (Value.int IntKind.i64 lo)).setCell { block:=w.heap.size+1+1+1,off:=0 } (Value.int IntKind.i64 hi)).setCell { block:=w.heap.size+1+1+1+1,off:=0 } (Value.bool true)) _=_
   rw[World.cell?_setCell_other _ _ _ _ (by simp),World.cell?_setCell_same _ _ _ (by rw[World.cell?_setCell_other _ _ _ _ (by simp)];exact HI.out.c5)]
  have e6:(((W.setCell { block:=w.heap.size+1+1,off:=0 } (Value.int IntKind.i64 lo)).setCell { block:=w.heap.size+1+1+1,off:=0 } (Value.int IntKind.i64 hi)).setCell { block:=w.heap.size+1+1+1+1,off:=0 } (Value.bool true)).drew.cell? ⟨w.heap.size+1+1+1+1,0,none⟩=some (.bool true):=by
   show World.cell? (((W.setCell { block:=w.heap.size+1+1,off:=0 } (Value.int IntKind.i64 lo)).setCell { block:=w.heap.size+1+1+1,off:=0 } (Value.int IntKind.i64 hi)).setCell { block:=w.heap.size+1+1+1+1,off:=0 } (Value.bool true)) _=_
   rw[World.cell?_setCell_same _ _ _ (by rw[World.cell?_setCell_other _ _ _ _ (by simp),World.cell?_setCell_other _ _ _ _ (by simp)];exact HI.out.c6)]
  have hk9:=(((KeepsOthers.setCell W ⟨w.heap.size+1+1,0,none⟩ (.int .i64 lo)).trans (KeepsOthers.setCell _ ⟨w.heap.size+1+1+1,0,none⟩ (.int .i64 hi))).trans (KeepsOthers.setCell _ ⟨w.heap.size+1+1+1+1,0,none⟩ (.bool true))).trans (KeepsOthers.drew _)
  have hK9:=hk9.same D' _ HK.out rfl
  have hb9:=(((HB.out.setCell (p:=⟨w.heap.size+1+1,0,none⟩) (by show _≤w.heap.size+1+1;omega) (.int .i64 lo)).setCell (p:=⟨w.heap.size+1+1+1,0,none⟩) (by show _≤w.heap.size+1+1+1;omega) (.int .i64 hi)).setCell (p:=⟨w.heap.size+1+1+1+1,0,none⟩) (by show _≤w.heap.size+1+1+1+1;omega) (.bool true)).drew
  generalize (((W.setCell { block:=w.heap.size+1+1,off:=0 } (Value.int IntKind.i64 lo)).setCell { block:=w.heap.size+1+1+1,off:=0 } (Value.int IntKind.i64 hi)).setCell { block:=w.heap.size+1+1+1+1,off:=0 } (Value.bool true)).drew=w9 at *
  have g4:=cell_kept e4 (grownBy_putObj' _ D' (.deferred none)) (fun r e=>by cases e;exact⟨_,hK9,rfl⟩)
  have g5:=cell_kept e5 (grownBy_putObj' _ D' (.deferred none)) (fun r e=>by cases e;exact⟨_,hK9,rfl⟩)
  have g6:=cell_kept e6 (grownBy_putObj' _ D' (.deferred none)) (fun r e=>by cases e;exact⟨_,hK9,rfl⟩)
  refine⟨by simp,.inl ⟨_,_,rfl,run_takeDeferred hK9,?_⟩⟩
  refine⟨.tuple #[.int .i64 lo,.int .i64 hi,.bool true],?_,by rw[Hv.out],hb9.trans (belowK_b (w:=w) nr_ w9 D' _ _ (by rw[hsz1] at hD;omega) hK9 rfl rfl)⟩
  simp[results,Tryz.results210,go_sem,g4,g5,g6]
 case stop =>
  rintro D' c pre W hD hSp ⟨⟨rfl,hbad,hX⟩,hB⟩ hK
  have hv:nearV most tl = .tuple #[.int .i64 0,.int .i64 0,.bool false]:=by
   unfold nearV
   rw[if_neg]
   intro h
   obtain⟨x,hx,hn⟩:=hbad
   exact hn (h x hx)
  have g4:=cell_kept hX.c4 (grownBy_putObj' _ D' (.deferred none)) (fun r e=>by cases e;exact⟨_,hK,rfl⟩)
  have g5:=cell_kept hX.c5 (grownBy_putObj' _ D' (.deferred none)) (fun r e=>by cases e;exact⟨_,hK,rfl⟩)
  have g6:=cell_kept hX.c6 (grownBy_putObj' _ D' (.deferred none)) (fun r e=>by cases e;exact⟨_,hK,rfl⟩)
  gi_wp2
  refine⟨by simp,.inl ⟨_,_,rfl,run_takeDeferred hK,?_⟩⟩
  refine⟨.tuple #[.int .i64 0,.int .i64 0,.bool false],?_,by rw[hv],hB.trans (belowK_b (w:=w) nr_ W D' _ _ (by rw[hsz1] at hD;omega) hK rfl rfl)⟩
  simp[results,Tryz.results210,go_sem,g4,g5,g6]
end Go.Proofs.YtnjedhgcfeoemaaGreatDoor

namespace Go.Proofs.YtnjedhgcfeoemaaGreatDoor
open Go.RowKit
structure TermsAt (w:World) (tl:List (Int×Int)) (b1:Option Addr) (b2:Option Addr):Prop where
 r1:Rd w b1 (ints (tl.map Prod.fst))
 r2:Rd w b2 (strs (tl.map fun x=>itx x.2))
 len:tl.length≤1000
 p:∀ x∈tl,2≤x.1∧x.1≤97
 z:∀ x∈tl,ZNum x.2
theorem TermsAt.below{w w':World}{tl:List (Int×Int)}{b1 b2:Option Addr}(h:TermsAt w tl b1 b2)(hb:Below w.heap.size w w'):TermsAt w' tl b1 b2 :=
 ⟨h.r1.below hb nr_,h.r2.below hb nr_,h.len,h.p,h.z⟩
theorem downward_any(w:World)(a b:Int)(ha : -4000000000000000000≤a∧a≤4000000000000000000)(hb:0<b)(hb2:b≤4000000000000000000):
  Gives Tryz.prog 247 #[.int .i64 a,.int .i64 b] w (.int .i64 (a/b)):=by
 unfold Gives
 have hbz:(b==0)=false:=by rw[beq_eq_false_iff_ne];omega
 by_cases h:a<0
 ·have hw1:IntKind.i64.wrap (-a) = -a:=iw_ _ (by omega)
  have hw2:IntKind.i64.wrap (-a+b) = -a+b:=iw_ _ (by omega)
  have hw3:IntKind.i64.wrap (-a+b-1) = -a+b-1:=iw_ _ (by omega)
  have e1:Int.tdiv (-a+b-1) b=(-a+b-1)/b:=Int.tdiv_eq_ediv_of_nonneg (by omega)
  have q1:0≤(-a+b-1)/b:=Int.ediv_nonneg (by omega) (by omega)
  have q2:(-a+b-1)/b ≤ -a+b-1:=Int.ediv_le_self _ (by omega)
  have hw4:IntKind.i64.wrap ((-a+b-1)/b)=(-a+b-1)/b:=iw_ _ (by omega)
  have hw5:IntKind.i64.wrap (-((-a+b-1)/b)) = -((-a+b-1)/b):=iw_ _ (by omega)
  have Hv:Hid (a/b = -((-a+b-1)/b)):=by
   show _=_
   have h1:=Int.emod_add_mul_ediv (-a+b-1) b
   have h2:=Int.emod_nonneg (-a+b-1) (show b≠0 by omega)
   have h3:=Int.emod_lt_of_pos (-a+b-1) hb
   generalize (-a+b-1)/b=q at *
   generalize (-a+b-1)%b=r at *
   have e2:a=(b-1-r)+b*(-q):=by rw[Int.mul_neg];omega
   rw[e2,Int.add_mul_ediv_left _ _ (show b≠0 by omega),Int.ediv_eq_zero_of_lt (by omega) (by omega)]
   omega
  generalize (-a+b-1)/b=q at *
  go_enter Tryz.func247,Tryz.ntmps247
  go_wp2
  go_ret
  exact⟨by rw[Hv.out];rfl,Below.refl _ _⟩
 ·have e1:Int.tdiv a b=a/b:=Int.tdiv_eq_ediv_of_nonneg (by omega)
  have q1:0≤a/b:=Int.ediv_nonneg (by omega) (by omega)
  have q2:a/b≤a:=Int.ediv_le_self _ (by omega)
  have hw4:IntKind.i64.wrap (a/b)=a/b:=iw_ _ (by omega)
  generalize a/b=q at *
  go_enter Tryz.func247,Tryz.ntmps247
  go_wp2
  go_ret
  exact⟨rfl,Below.refl _ _⟩
theorem lowest_neg(w:World)(n:Int)(d g:Nat)(hn:ZNum n)(hd:Num d)(hd0:0<d)(hn1:Num (n.natAbs+1))(hd1:Num (d+1))(hg:Nat.gcd n.natAbs d=g)(L:Laid w):
  Gives Tryz.prog 125 #[.string (itx (-n)),.string (itx (-(d:Int)))] w (fv (n/(g:Int)) (d/g)):=by
 unfold Gives fv
 have hg0:0<g:=by rw[← hg];exact Nat.gcd_pos_of_pos_right _ hd0
 have hgl:g≤d:=by rw[← hg];exact Nat.gcd_le_right _ hd0
 have hgn:Num g:=hd.le hgl
 have Hb0:=hd_ ((Below.refl w.heap.size w).alloc nr_ (.cells #[.string ⟨#[]⟩,.string ⟨#[]⟩] 42))
 have Hnew:Hid ((w.alloc (.cells #[.string ⟨#[]⟩,.string ⟨#[]⟩] 42)).heap[w.heap.size]?=some (.cells #[.string ⟨#[]⟩,.string ⟨#[]⟩] 42 (0,0))):=heap_alloc_new w _
 have HL:=hd_ (L.below Hb0.out)
 have Hsg:Hid (∀ W,Gives Tryz.prog 84 #[.string (itx (-(d:Int)))] W (.int .i64 (-1))):=fun W=>by
  have:=sign_any W (-(d:Int))
  rw[Int.sign_eq_neg_one_of_neg (show -(d:Int)<0 by omega)] at this
  exact this
 have Hn1:Hid (∀ W,Gives Tryz.prog 71 #[.string (itx (-n))] W (.string (itx n))):=fun W=>by
  have:=neg_any W (-n) (show Num _ by rw[Int.natAbs_neg];exact hn)
  rw[Int.neg_neg] at this
  exact this
 have Hn2:Hid (∀ W,Gives Tryz.prog 71 #[.string (itx (-(d:Int)))] W (.string (dec d))):=fun W=>by
  have:=neg_any W (-(d:Int)) (show Num _ by rw[Int.natAbs_neg];exact hd)
  rw[Int.neg_neg,itx_nat] at this
  exact this
 clear L
 go_enter Tryz.func125,Tryz.ntmps125
 go_wp2_with fail
 generalize w.alloc (.cells #[.string ⟨#[]⟩,.string ⟨#[]⟩] 42)=W0 at *
 have Hgc:Hid (∀ W,Below W0.heap.size W0 W→Gives Tryz.prog 188 #[.string (itx n),.string (dec d)] W (.string (dec g))):=fun W hW=>by
  have:=gcdz_any W n (d:Int) hn (show Num _ from hd) (HL.out.below hW)
  rw[itx_nat,show Int.gcd n (d:Int)=g from hg] at this
  exact this
 have Hd1:Hid (∀ W,Below W0.heap.size W0 W→Gives Tryz.prog 163 #[.string (itx n),.string (dec g)] W (.tuple #[.string (itx (n/(g:Int))),.string (itx (n%(g:Int))),.int .i64 0])):=fun W hW=>divmodz_any W n g hn hgn hg0 hn1 (HL.out.below hW)
 have Hd2:Hid (∀ W,Below W0.heap.size W0 W→Gives Tryz.prog 163 #[.string (dec d),.string (dec g)] W (.tuple #[.string (dec (d/g)),.string (itx ((d:Int)%(g:Int))),.int .i64 0])):=fun W hW=>by
  have:=divmodz_any W (d:Int) g (show Num _ from hd) hgn hg0 (show Num (d+1) from hd1) (HL.out.below hW)
  rw[itx_nat,show (d:Int)/(g:Int)=((d/g:Nat):Int) from rfl,itx_nat] at this
  exact this
 have ho:=is_one g
 by_cases h1:g=1
 ·have Hrs:Hid (itx (n/(g:Int))=itx n):=by show _=_;rw[h1];congr 1;exact Int.ediv_one n
  have Hrt:Hid (dec (d/g)=dec d):=by show _=_;rw[h1,Nat.div_one]
  rw[decide_eq_true h1] at ho
  clear h1 Hd1 Hd2 hg hg0 hgl hgn hn hd hn1 hd1
  obtain⟨s,hs⟩:∃ s,itx n=s:=⟨_,rfl⟩
  obtain⟨t,ht⟩:∃ t,dec d=t:=⟨_,rfl⟩
  rw[hs] at Hrs Hgc Hn1
  rw[ht] at Hrt Hgc Hn2
  clear hs ht
  generalize itx (-n)=ns at *
  generalize itx (-(d:Int))=nd at *
  generalize dec g=u at *
  refine cm_ (Hsg.out _) ?_
  rintro e w1 ⟨rfl,hb1⟩
  have Hb1:=hd_ hb1
  clear hb1 Hsg
  go_wp2_with fail
  refine cm_ (Hn1.out _) ?_
  rintro e w5 ⟨rfl,hb5⟩
  have Hb5:=hd_ (Hb1.out.trans (hb5.mono Hb1.out.size))
  clear hb5 Hb1 Hn1
  go_wp2_with fail
  refine cm_ (Hn2.out _) ?_
  rintro e w6 ⟨rfl,hb6⟩
  have Hb6:=hd_ (Hb5.out.trans (hb6.mono Hb5.out.size))
  clear hb6 Hb5 Hn2
  go_wp2_with fail
  refine cm_ (Hgc.out w6 Hb6.out) ?_
  rintro e w2 ⟨rfl,hb2⟩
  have Hb2:=hd_ (Hb6.out.trans (hb2.mono Hb6.out.size))
  clear hb2 Hb6 Hgc
  have Hcell:=hd_ (stored_cell Hnew.out Hb2.out)
  have Hbw:=hd_ (Hb0.out.trans (Hb2.out.mono Hb0.out.size))
  obtain⟨k0,k1,f0,f1⟩:=two_cells Hcell.out
  clear Hb2 Hb0 Hcell Hnew HL
  go_wp2
  obtain⟨c0,c1,hb3⟩:=two_stored (.string s) (.string t) k0 k1 nr_ Hbw.out
  generalize (w2.setCell ⟨w.heap.size,0,none⟩ (.string s)).setCell ⟨w.heap.size,1,none⟩ (.string t)=w9 at *
  exact bodyPost_ret (v := .agg #[.string s,.string t]) (by simp[results,Tryz.results125,go_sem,c0,c1]) rfl ⟨by rw[Hrs.out,Hrt.out],hb3⟩
 ·rw[decide_eq_false h1] at ho
  obtain⟨rs,hrs⟩:∃ rs,itx (n/(g:Int))=rs:=⟨_,rfl⟩
  obtain⟨rt,hrt⟩:∃ rt,dec (d/g)=rt:=⟨_,rfl⟩
  rw[hrs] at Hd1
  rw[hrt] at Hd2
  have Hrs:=hd_ hrs
  have Hrt:=hd_ hrt
  clear h1 hg hg0 hgl hgn hn hd hn1 hd1 hrs hrt
  generalize itx (n%(g:Int))=e1 at Hd1
  generalize itx ((d:Int)%(g:Int))=e2 at Hd2
  obtain⟨s,hs⟩:∃ s,itx n=s:=⟨_,rfl⟩
  obtain⟨t,ht⟩:∃ t,dec d=t:=⟨_,rfl⟩
  obtain⟨u,hu⟩:∃ u,dec g=u:=⟨_,rfl⟩
  rw[hs] at Hd1 Hgc Hn1
  rw[ht] at Hd2 Hgc Hn2
  rw[hu] at Hd1 Hd2 Hgc ho
  clear hs ht hu
  generalize itx (-n)=ns at *
  generalize itx (-(d:Int))=nd at *
  refine cm_ (Hsg.out _) ?_
  rintro e w1 ⟨rfl,hb1⟩
  have Hb1:=hd_ hb1
  clear hb1 Hsg
  go_wp2_with fail
  refine cm_ (Hn1.out _) ?_
  rintro e w5 ⟨rfl,hb5⟩
  have Hb5:=hd_ (Hb1.out.trans (hb5.mono Hb1.out.size))
  clear hb5 Hb1 Hn1
  go_wp2_with fail
  refine cm_ (Hn2.out _) ?_
  rintro e w6 ⟨rfl,hb6⟩
  have Hb6:=hd_ (Hb5.out.trans (hb6.mono Hb5.out.size))
  clear hb6 Hb5 Hn2
  go_wp2_with fail
  refine cm_ (Hgc.out w6 Hb6.out) ?_
  rintro e w2 ⟨rfl,hb2⟩
  have Hb2:=hd_ (Hb6.out.trans (hb2.mono Hb6.out.size))
  clear hb2 Hb6 Hgc
  go_wp2_with fail
  refine cm_ (Hd1.out w2 Hb2.out) ?_
  rintro e w3 ⟨rfl,hb3⟩
  have Hb3:=hd_ (Hb2.out.trans (hb3.mono Hb2.out.size))
  clear hb3 Hb2 Hd1
  go_wp2_with fail
  refine cm_ (Hd2.out w3 Hb3.out) ?_
  rintro e w4 ⟨rfl,hb4⟩
  have Hb4:=hd_ (Hb3.out.trans (hb4.mono Hb3.out.size))
  clear hb4 Hb3 Hd2
  have Hcell:=hd_ (stored_cell Hnew.out Hb4.out)
  have Hbw:=hd_ (Hb0.out.trans (Hb4.out.mono Hb0.out.size))
  obtain⟨k0,k1,f0,f1⟩:=two_cells Hcell.out
  clear Hb4 Hb0 Hcell Hnew HL
  go_wp2
  obtain⟨c0,c1,hb3⟩:=two_stored (.string rs) (.string rt) k0 k1 nr_ Hbw.out
  generalize (w4.setCell ⟨w.heap.size,0,none⟩ (.string rs)).setCell ⟨w.heap.size,1,none⟩ (.string rt)=w9 at *
  exact bodyPost_ret (v := .agg #[.string rs,.string rt]) (by simp[results,Tryz.results125,go_sem,c0,c1]) rfl ⟨by rw[Hrs.out,Hrt.out],hb3⟩
theorem lowest_any(w:World)(n m:Int)(hn:ZNum n)(hm:ZNum m)(hm0:m≠0)(hn1:Num (n.natAbs+1))(hm1:Num (m.natAbs+1))(L:Laid w):
  Gives Tryz.prog 125 #[.string (itx n),.string (itx m)] w (fr ((n:Rat)/(m:Rat))):=by
 have key:∀ (k:Int) (d:Nat),d≠0→fv (k/((Nat.gcd k.natAbs d:Nat):Int)) (d/Nat.gcd k.natAbs d)=fr (mkRat k d):=fun k d hd=>by
  have:=redV_rat k d hd
  unfold redV at this
  exact this
 by_cases h:0<m
 ·obtain⟨d,rfl⟩:∃ d:Nat,m=(d:Int):=⟨m.toNat,by omega⟩
  have:=lowest_frac w n d _ hn hm (by omega) hn1 hm1 rfl L
  rw[key n d (by omega),Rat.mkRat_eq_div] at this
  rw[itx_nat]
  exact this
 ·obtain⟨d,rfl⟩:∃ d:Nat,m = -(d:Int):=⟨m.natAbs,by omega⟩
  have hmm:Num d:=by have:Num (-(d:Int)).natAbs:=hm;rwa [Int.natAbs_neg] at this
  have hmm1:Num (d+1):=by rwa [Int.natAbs_neg] at hm1
  have:=lowest_neg w (-n) d _ (show Num _ by rw[Int.natAbs_neg];exact hn) hmm (by omega) (by rw[Int.natAbs_neg];exact hn1) hmm1 rfl L
  rw[Int.neg_neg,key (-n) d (by omega),Rat.mkRat_eq_div] at this
  have e:((-n:Int):Rat)/((d:Nat):Rat)=(n:Rat)/((-(d:Int):Int):Rat):=by
   rw[Rat.div_def,Rat.div_def,Rat.intCast_neg,Rat.intCast_neg,Rat.intCast_natCast]
   have hi:(-((d:Nat):Rat))⁻¹ = -(((d:Nat):Rat)⁻¹):=by
    apply Rat.inv_eq_of_mul_eq_one
    have:((d:Nat):Rat)≠0:=by intro h0;exact absurd (Rat.natCast_eq_zero_iff.1 h0) (by omega)
    rw[Rat.neg_mul,Rat.mul_neg,Rat.neg_neg,Rat.mul_inv_cancel _ this]
   rw[hi,Rat.neg_mul,Rat.mul_neg]
  rw[e] at this
  exact this
theorem div_eq(a b:Rat):a/b=((a.num*b.den:Int):Rat)/(((a.den:Int)*b.num:Int):Rat):=by
 have h1:a=(a.num:Rat)/((a.den:Nat):Rat):=by rw[← Rat.mkRat_eq_div,Rat.mkRat_self]
 have h2:b=(b.num:Rat)/((b.den:Nat):Rat):=by rw[← Rat.mkRat_eq_div,Rat.mkRat_self]
 have ha:((a.den:Nat):Rat)≠0:=by intro h;exact a.den_nz (Rat.natCast_eq_zero_iff.1 h)
 have hb:((b.den:Nat):Rat)≠0:=by intro h;exact b.den_nz (Rat.natCast_eq_zero_iff.1 h)
 rw[Rat.intCast_mul,Rat.intCast_mul,Rat.intCast_natCast,Rat.intCast_natCast]
 generalize a.num=x at *
 generalize b.num=y at *
 generalize ((a.den:Nat):Rat)=u at *
 generalize ((b.den:Nat):Rat)=v at *
 subst h1 h2
 by_cases hy:(y:Rat)=0
 ·rw[hy];simp[Rat.div_def]
 ·grind
theorem divR(w:World)(a b:Rat)(D E:Nat)(ha:Sm D a)(hb:Sm E b)(hb0:b≠0)(h6:D+E+2≤1000000)(L:Laid w):
  Gives Tryz.prog 246 #[fr a,fr b] w (.tuple #[fr (a/b),.int .i64 0]):=by
 have hm0:b.num≠0:=fun h=>hb0 (Rat.num_eq_zero.1 h)
 have p1:=ha.pos
 have p2:=hb.pos
 have e1:(a.num*b.den).natAbs<10^(D+E):=by rw[Int.natAbs_mul];exact pow_ten_mul ha.1 hb.2
 have e2:((a.den:Int)*b.num).natAbs<10^(D+E):=by rw[Int.natAbs_mul];exact pow_ten_mul ha.2 hb.1
 have h3:10^(D+E)<10^(D+E+1):=Nat.pow_lt_pow_right (by decide) (by omega)
 have z1:ZNum (a.num*b.den):=num_pow e1 (by omega) (by omega)
 have z2:ZNum ((a.den:Int)*b.num):=num_pow e2 (by omega) (by omega)
 have z3:Num ((a.num*b.den).natAbs+1):=num_pow (D:=D+E+1) (by omega) (by omega) (by omega)
 have z4:Num (((a.den:Int)*b.num).natAbs+1):=num_pow (D:=D+E+1) (by omega) (by omega) (by omega)
 have hm1:(a.den:Int)*b.num≠0:=Int.mul_ne_zero (by have:=a.den_nz;omega) hm0
 have zn:ZNum a.num:=num_pow ha.1 p1 (by omega)
 have zm:ZNum b.num:=num_pow hb.1 p2 (by omega)
 have zd:Num a.den:=num_pow ha.2 p1 (by omega)
 have ze:Num b.den:=num_pow hb.2 p2 (by omega)
 obtain⟨rs,hrs⟩:∃ rs,itx (a/b).num=rs:=⟨_,rfl⟩
 obtain⟨rt,hrt⟩:∃ rt,dec (a/b).den=rt:=⟨_,rfl⟩
 have Hv:Hid (fr (a/b) = .agg #[.string rs,.string rt]):=by show _=_;unfold fr fv;rw[hrs,hrt]
 have hlo:∀ W,Laid W→Gives Tryz.prog 125 #[.string (itx (a.num*b.den)),.string (itx ((a.den:Int)*b.num))] W (.agg #[.string rs,.string rt]):=fun W LW=>by
  have:=lowest_any W _ _ z1 z2 hm1 z3 z4 LW
  rw[← div_eq] at this
  unfold fr fv at this
  rw[hrs,hrt] at this
  exact this
 unfold Gives
 show Calls _ _ #[fv a.num a.den,fv b.num b.den] _ _
 have Hsg:Hid (∀ W,Gives Tryz.prog 89 #[fv b.num b.den] W (.int .i64 b.num.sign)):=fun W=>sign_frac W b.num b.den
 have hs0:(b.num.sign==0)=false:=by
  rw[beq_eq_false_iff_ne]
  intro h
  exact hm0 (Int.sign_eq_zero_iff_zero.1 h)
 clear hrs hrt hm1 z3 z4 e1 e2 h3 ha hb hb0
 generalize a.num=n at *
 generalize a.den=d at *
 generalize b.num=m at *
 generalize b.den=e at *
 generalize m.sign=sg at *
 have H3:=hd_ (Three.mk' w (itx n) (dec d) (itx m) (dec e))
 have HL:=hd_ (L.below H3.out.bel)
 clear L
 have Hm1:Hid (∀ W,Below (((w.alloc (.cells #[.string (itx n),.string (dec d)] 42)).alloc (.cells #[.string (itx m),.string (dec e)] 42)).alloc (.cells #[.string ⟨#[]⟩,.string ⟨#[]⟩] 42)).heap.size (((w.alloc (.cells #[.string (itx n),.string (dec d)] 42)).alloc (.cells #[.string (itx m),.string (dec e)] 42)).alloc (.cells #[.string ⟨#[]⟩,.string ⟨#[]⟩] 42)) W→∀ d' os,Calls Tryz.prog 115 #[.string (itx n),.string (dec e)] (Go.Sort.grow (redrawn W d') os) fun x w''=>x = .returned (.string (itx (n*e)))∧∃ p:Regrown,w''=Go.Sort.grow (redrawn W p.d) p.os):=fun W hW d' os=>by
  have:=mulz_any (Go.Sort.grow (redrawn W d') os) n (e:Int) zn (show Num _ from ze) z1 ((HL.out.below hW).below (below_regrown W d' os))
  rw[itx_nat] at this
  exact Calls.regrown_of this
 have Hm2:Hid (∀ W,Below (((w.alloc (.cells #[.string (itx n),.string (dec d)] 42)).alloc (.cells #[.string (itx m),.string (dec e)] 42)).alloc (.cells #[.string ⟨#[]⟩,.string ⟨#[]⟩] 42)).heap.size (((w.alloc (.cells #[.string (itx n),.string (dec d)] 42)).alloc (.cells #[.string (itx m),.string (dec e)] 42)).alloc (.cells #[.string ⟨#[]⟩,.string ⟨#[]⟩] 42)) W→∀ d' os,Calls Tryz.prog 115 #[.string (dec d),.string (itx m)] (Go.Sort.grow (redrawn W d') os) fun x w''=>x = .returned (.string (itx ((d:Int)*m)))∧∃ p:Regrown,w''=Go.Sort.grow (redrawn W p.d) p.os):=fun W hW d' os=>by
  have:=mulz_any (Go.Sort.grow (redrawn W d') os) (d:Int) m (show Num _ from zd) zm z2 ((HL.out.below hW).below (below_regrown W d' os))
  rw[itx_nat] at this
  exact Calls.regrown_of this
 have Hm3:Hid (∀ W,Below (((w.alloc (.cells #[.string (itx n),.string (dec d)] 42)).alloc (.cells #[.string (itx m),.string (dec e)] 42)).alloc (.cells #[.string ⟨#[]⟩,.string ⟨#[]⟩] 42)).heap.size (((w.alloc (.cells #[.string (itx n),.string (dec d)] 42)).alloc (.cells #[.string (itx m),.string (dec e)] 42)).alloc (.cells #[.string ⟨#[]⟩,.string ⟨#[]⟩] 42)) W→∀ d' os,Calls Tryz.prog 125 #[.string (itx (n*e)),.string (itx ((d:Int)*m))] (Go.Sort.grow (redrawn W d') os) fun x w''=>x = .returned (.agg #[.string rs,.string rt])∧∃ p:Regrown,w''=Go.Sort.grow (redrawn W p.d) p.os):=fun W hW d' os=>by
  exact Calls.regrown_of (hlo (Go.Sort.grow (redrawn W d') os) ((HL.out.below hW).below (below_regrown W d' os)))
 unfold fv at Hsg ⊢
 clear hlo z1 z2 zn zm zd ze hm0 p1 p2
 go_enter Tryz.func246,Tryz.ntmps246
 obtain⟨k0,k1,-,-⟩:=two_cells H3.out.fa
 obtain⟨k2,k3,-,-⟩:=two_cells H3.out.fb
 go_wp2_with fail
 generalize ((w.alloc (.cells #[.string (itx n),.string (dec d)] 42)).alloc (.cells #[.string (itx m),.string (dec e)] 42)).alloc (.cells #[.string ⟨#[]⟩,.string ⟨#[]⟩] 42)=W0 at *
 clear k0 k1 k2 k3
 refine cm_ (Hsg.out _) ?_
 rintro e w1 ⟨rfl,hb1⟩
 have Hb1:=hd_ hb1
 clear hb1 Hsg
 obtain⟨k0,k1,-,-⟩:=two_cells (H3.out.next Hb1.out).fa
 obtain⟨k2,k3,-,-⟩:=two_cells (H3.out.next Hb1.out).fb
 have q0:=cell_regrown k0
 have q1:=cell_regrown k1
 have q2:=cell_regrown k2
 have q3:=cell_regrown k3
 have hM1:=Hm1.out w1 Hb1.out
 have hM2:=Hm2.out w1 Hb1.out
 have hM3:=Hm3.out w1 Hb1.out
 clear k0 k1 k2 k3 Hm1 Hm2 Hm3
 go_wp2_with fail
 refine wp_region_below_tail 11 (by kernel_rfl) (by kernel_rfl) ?_
 simp only[List.take_succ_cons,List.take_zero,List.drop_succ_cons,List.drop_zero]
 repeat (first | go_big_quiet_step (first | with_reducible exact hM1 _ _ | with_reducible exact hM2 _ _ | with_reducible exact hM3 _ _) | quiet_step (first | with_reducible exact hM1 _ _ | with_reducible exact hM2 _ _ | with_reducible exact hM3 _ _))
 refine wpQuiet_nil ?_
 intro w8 hw8
 obtain⟨⟨dq,osq⟩,rfl⟩:=hw8
 have hb8:=below_regrown w1 dq osq
 have H8:=hd_ ((H3.out.next Hb1.out).next hb8)
 clear hb8 hM1 hM2 hM3 q0 q1 q2 q3 H3 Hb1
 generalize Go.Sort.grow (redrawn w1 dq) osq=w8 at *
 obtain⟨k0,k1,f0,f1⟩:=two_cells H8.out.fr
 have Hbw:=hd_ H8.out.bel
 clear H8
 go_wp2
 obtain⟨c0,c1,hb3⟩:=two_stored (B:=w.heap.size) (.string rs) (.string rt) k0 k1 (by omega) Hbw.out
 generalize (w8.setCell ⟨w.heap.size+1+1,0,none⟩ (.string rs)).setCell ⟨w.heap.size+1+1,1,none⟩ (.string rt)=w9 at *
 exact bodyPost_ret (v := .tuple #[.agg #[.string rs,.string rt],.int .i64 0]) (by simp[results,Tryz.results246,go_sem,c0,c1]) rfl ⟨by rw[Hv.out],hb3⟩
theorem tlist_mem{D:Nat}{ps:List Int}{l:List Rat}{x:Int×Int}(hx:x∈tlist D ps l):x.1∈ps∧∃ q∈l,q.num≠0∧x.2=q.num*((D/q.den:Nat):Int):=by
 unfold tlist at hx
 obtain⟨y,hy,he⟩:=List.mem_filterMap.1 hx
 have h1:=(List.of_mem_zip hy).1
 have h2:=(List.of_mem_zip hy).2
 by_cases h:y.2.num=0
 ·rw[if_pos h] at he;cases he
 ·rw[if_neg h] at he
  simp only[Option.some.injEq] at he
  subst he
  exact⟨h1,y.2,h2,h,rfl⟩
def tlQ (ps:List Int) (l:List Rat):List (Int×Int):=tlist (tden l) ps l
theorem tlQ_znum{ps:List Int}{l:List Rat}{D:Nat}(hs:∀ q∈l,Sm D q)(h6:3+(l.length+2)*D≤900000):∀ x∈tlQ ps l,ZNum x.2:=fun x hx=>by
 obtain⟨_,q,hq,_,he⟩:=tlist_mem hx
 have h1:=tden_lt l D hs l.length nr_
 rw[List.take_length] at h1
 have h2:=(hs q hq).1
 have h3:tden l/q.den≤tden l:=Nat.div_le_self _ _
 have h4:=pow_ten_mul h2 (Nat.lt_of_le_of_lt h3 h1)
 rw[he]
 refine num_pow (D:=D+(1+l.length*D)) ?_ (by omega) ?_
 ·rw[Int.natAbs_mul];exact h4
 ·rw[Nat.add_mul] at h6;omega
theorem rd_obj{w:World}{g:Nat}{cs:Array Value}{t:TypeId}(h:w.heap[g]?=some (.cells cs t (0,0))):Rd w (some ⟨g,0,none⟩) cs.toList:=by
 refine .inr ⟨g,0,rfl,(Array.getElem?_eq_some_iff.1 h).1,fun i v hi=>?_⟩
 rw[Nat.zero_add,cell_of_row w g i _ t (0,0) h,← Array.getElem?_toList]
 exact hi
theorem rdl_two{w:World}{g:Nat}{a1 a2:Option Addr}{c1 c2:Nat}{l1 l2:Pairs}{t:TypeId}(h:w.heap[g]?=some (.cells #[.slice a1 l1.length c1,.slice a2 l2.length c2] t (0,0)))(h1:Rd w a1 (cellsS l1))(h2:Rd w a2 (cellsS l2)):RdL w (some ⟨g,0,none⟩) [l1,l2]:=by
 obtain⟨k0,k1,-,-⟩:=(⟨by rw[cell_of_row w g 0 _ t (0,0) h];rfl,by rw[cell_of_row w g 1 _ t (0,0) h];rfl,trivial,trivial⟩:w.cell? ⟨g,0,none⟩=some (.slice a1 l1.length c1)∧w.cell? ⟨g,1,none⟩=some (.slice a2 l2.length c2)∧True∧True)
 refine .inr ⟨g,0,rfl,(Array.getElem?_eq_some_iff.1 h).1,fun i hi=>?_⟩
 match i,hi with
 | 0,_=>exact⟨a1,c1,k0,h1⟩
 | 1,_=>exact⟨a2,c2,k1,h2⟩
structure SizeOk (w:World) (ps:List Int) (a0 a:Option Addr) (l:List Rat) (D:Nat):Prop where
 rp:Rd w a0 (ints ps)
 rl:Rd w a (cellsQ l)
 len:l.length=ps.length
 n:ps.length≤100
 pr:∀ p∈ps,2≤p∧p≤97
 sm:∀ q∈l,Sm D q
 d:D≤1000
theorem SizeOk.below{w w':World}{ps:List Int}{a0 a:Option Addr}{l:List Rat}{D:Nat}(h:SizeOk w ps a0 a l D)(hb:Below w.heap.size w w'):SizeOk w' ps a0 a l D :=
 ⟨h.rp.below hb nr_,h.rl.below hb nr_,h.len,h.n,h.pr,h.sm,h.d⟩
theorem SizeOk.i64{w:World}{ps:List Int}{a0 a:Option Addr}{l:List Rat}{D:Nat}(h:SizeOk w ps a0 a l D):I64s ps:=fun x hx=>by have:=h.pr x hx;omega
theorem terms_ok{w:World}{ps:List Int}{a0 a:Option Addr}{l:List Rat}{D c0 c:Nat}(S:SizeOk w ps a0 a l D)(L:Laid w):
  Calls Tryz.prog 100 #[.slice a0 ps.length c0,.slice a l.length c] w fun e w'=>∃ b1 d1 b2 d2,e = .returned (.agg (tcells b1 d1 b2 d2 (tlQ ps l).length (tden l)))∧TermsAt w' (tlQ ps l) b1 b2∧Below w.heap.size w w':=by
 have hn:=S.n
 have hd:=S.d
 have hlen:=S.len
 have h6:3+(l.length+2)*D≤900000:=by
  have:(l.length+2)*D≤102*1000:=Nat.mul_le_mul (by omega) hd
  omega
 refine cm_ (termsOf_any w a0 a c0 c ps l D S.rp S.rl S.len.symm S.sm (by omega) h6 L) ?_
 rintro e w' ⟨b1,d1,b2,d2,he,r1,r2,hb⟩
 refine⟨b1,d1,b2,d2,he,⟨r1,r2,?_,?_,tlQ_znum S.sm h6⟩,hb⟩
 ·exact Nat.le_trans (tlist_length _ _ _) (by omega)
 ·exact fun x hx=>S.pr x.1 (tlist_mem hx).1
theorem heap_kept{w w':World}{B g:Nat}{o:Obj}(h:w.heap[g]?=some o)(hb:Below B w w')(hB:w.heap.size≤B):w'.heap[g]?=some o :=
 (hb.block g (Nat.lt_of_lt_of_le (Array.getElem?_eq_some_iff.1 h).1 hB)).trans h
theorem Sm.one:Sm 1 1:=⟨by decide,by decide⟩
theorem Sm.minus:Sm 1 (-1):=⟨by decide,by decide⟩
theorem sgo_ok:∀ (l:List Rat),(∀ q∈l,Sm 30 q)→sgo (l.map qs)=0
 | [],_=>rfl
 | q::l,h=>by
  have h1:∃ p:Rat,qs q=qs p∧Sm 400 p:=⟨q,rfl,(h q List.mem_cons_self).le (by decide)⟩
  have h2:∃ p:Rat,qs q=qs p∧shortQ p:=⟨q,rfl,h q List.mem_cons_self⟩
  rw[List.map_cons,sgo,if_pos h1,if_pos h2]
  exact sgo_ok l fun p hp=>h p (List.mem_cons_of_mem _ hp)
theorem scode_ok{n:Nat}{l:List Rat}(h:∀ q∈l,Sm 30 q)(hl:l.length=n):scode n (l.map qs)=0:=by
 unfold scode
 rw[if_pos (by rw[List.length_map];exact hl),sgo_ok l h]
theorem itx_size(z:Int)(D:Nat)(hD:0<D)(h:z.natAbs<10^D):(itx z).size≤D+1:=by
 have h1:=(size_lt z.natAbs D hD).2 h
 have h2:=itx_size_le z
 omega
theorem ssz_ok{l:List Rat}(h:∀ q∈l,Sm 30 q):Ssz (l.map qs):=fun x hx=>by
 obtain⟨q,hq,rfl⟩:=List.mem_map.1 hx
 have h1:=itx_size q.num 30 (by decide) (h q hq).1
 have h2:=(size_lt q.den 30 (by decide)).2 (h q hq).2
 exact⟨Nat.le_trans h1 (by decide),Nat.le_trans h2 (by decide)⟩
theorem lcode_two{ps:List Int}{la lb:List Rat}(hp:pcode ps=0)(ha:∀ q∈la,Sm 30 q)(hb:∀ q∈lb,Sm 30 q)(h1:la.length=ps.length)(h2:lb.length=ps.length):lcode ps [la.map qs,lb.map qs]=0:=by
 unfold lcode
 rw[if_pos hp,lgo,if_pos (scode_ok ha h1),lgo,if_pos (scode_ok hb h2),lgo]
theorem SizeOk.le{w:World}{ps:List Int}{a0 a:Option Addr}{l:List Rat}{D E:Nat}(h:SizeOk w ps a0 a l D)(hE:D≤E)(h1:E≤1000):SizeOk w ps a0 a l E :=
 ⟨h.rp,h.rl,h.len,h.n,h.pr,fun q hq=>(h.sm q hq).le hE,h1⟩
theorem checkAll_two(W:World)(ps:List Int)(g:Nat)(a0 a1 a2:Option Addr)(c0 c1 c2:Nat)(la lb:List Rat)(A:SizeOk W ps a0 a1 la 30)(B:SizeOk W ps a0 a2 lb 30)(hp:pcode ps=0)(L:Laid W)
  (h1:W.heap[g]?=some (.cells #[.slice a1 la.length c1,.slice a2 lb.length c2] 38 (0,0))) :
  Gives Tryz.prog 107 #[.slice a0 ps.length c0,.slice (some ⟨g,0,none⟩) 2 2] W (.int .i64 0):=by
 have h1':W.heap[g]?=some (.cells #[.slice a1 (la.map qs).length c1,.slice a2 (lb.map qs).length c2] 38 (0,0)):=by rw[List.length_map,List.length_map];exact h1
 have hn:=A.n
 have e1:=A.len
 have e2:=B.len
 have h:=checkAll_any W a0 _ c0 2 ps [la.map qs,lb.map qs] A.rp A.i64 (by omega) (rdl_two h1' A.rl B.rl) (by simp)
  (by
   intro l hl
   simp only[List.mem_cons,List.not_mem_nil,or_false] at hl
   rcases hl with rfl|rfl
   ·exact⟨by rw[List.length_map];omega,ssz_ok A.sm⟩
   ·exact⟨by rw[List.length_map];omega,ssz_ok B.sm⟩) L
 rw[lcode_two hp A.sm B.sm e1 e2] at h
 exact h
theorem checkQuotient_ok(w:World)(ps:List Int)(a0 a1 a2:Option Addr)(c0 c1 c2:Nat)(la lb:List Rat)(A:SizeOk w ps a0 a1 la 30)(B:SizeOk w ps a0 a2 lb 30)(hp:pcode ps=0)(L:Laid w)
  (hq:tlQ ps lb≠[]) :
  Gives Tryz.prog 192 #[.slice a0 ps.length c0,.slice a1 la.length c1,.slice a2 lb.length c2] w (.int .i64 0):=by
 unfold Gives
 have HB:=hd_ B
 have HL:=hd_ L
 have Hk:Hid (∀ W g,Below w.heap.size w W→W.heap[g]?=some (.cells #[.slice a1 la.length c1,.slice a2 lb.length c2] 38 (0,0))→Gives Tryz.prog 107 #[.slice a0 ps.length c0,.slice (some ⟨g,0,none⟩) 2 2] W (.int .i64 0)):=fun W g hW hg =>
  checkAll_two W ps g a0 a1 a2 c0 c1 c2 la lb (A.below hW) (B.below hW) hp (L.below hW) hg
 have hz:(((tlQ ps lb).length:Int)==0)=false:=by
  rw[beq_eq_false_iff_ne]
  intro h
  exact hq (List.eq_nil_of_length_eq_zero (by omega))
 have Ht:Hid (∀ W,Below w.heap.size w W→Calls Tryz.prog 100 #[.slice a0 ps.length c0,.slice a2 lb.length c2] W fun e w'=>∃ b1 d1 b2 d2,e = .returned (.agg (tcells b1 d1 b2 d2 (tlQ ps lb).length (tden lb)))∧TermsAt w' (tlQ ps lb) b1 b2∧Below W.heap.size W w'):=fun W hW =>
  terms_ok (HB.out.below hW) (HL.out.below hW)
 clear A B hp L hq HB HL
 generalize (tlQ ps lb).length=m at *
 go_enter Tryz.func192,Tryz.ntmps192
 go_wp2_with fail
 have B1:=hd_ ((Below.refl w.heap.size w).alloc nr_ (.cells #[.slice a1 la.length c1,.slice a2 lb.length c2] 38))
 refine cm_ (Hk.out _ _ B1.out (heap_at w _ _ _ rfl)) ?_
 rintro e w1 ⟨rfl,hb⟩
 have B2:=hd_ (B1.out.trans (hb.mono B1.out.size))
 clear hb Hk B1
 go_wp2_with fail
 refine cm_ (Ht.out _ B2.out) ?_
 rintro e w2 ⟨b1,d1,b2,d2,rfl,T,hb⟩
 have B3:=hd_ (B2.out.trans (hb.mono B2.out.size))
 clear hb Ht T
 have hf:∀ W:World,(Instr.field 163 (.agg (tcells b1 d1 b2 d2 m (tden lb))) 0).run Tryz.prog W = .ok (.slice b1 m d1) W:=fun W=>by rfl
 go_wp2_with fail
 go_ret
 exact⟨rfl,B3.out⟩
theorem fieldsQ : (Tryz.prog.fieldsOf 42).toList.map (fun f => (f.name, f.type, f.offset)) = [("Num", 25, 0), ("Den", 25, 1)] := by kernel_rfl
theorem stoodQ:Tryz.prog.stoodInHeld 42=false:=by kernel_rfl
theorem guardQ:Tryz.prog.eqGuardType Tryz.prog.depth 42=false:=by kernel_rfl
theorem eqFields_two (W : World) (d : Nat) (s t s' t' : ByteArray) (fs : List Field) (h : fs.map (fun f => (f.name, f.type, f.offset)) = [("Num", 25, 0), ("Den", 25, 1)]) :
  (Op.eqFields (d+1) #[.string s,.string t] #[.string s',.string t'] fs).run Tryz.prog W = .ok (s.toList==s'.toList&&t.toList==t'.toList) W:=by
 obtain⟨f,g,rfl⟩:∃ f g,fs=[f,g]:=by
  have hl:=congrArg List.length h
  rw[List.length_map] at hl
  cases fs with
  | nil=>simp at hl
  | cons f fs =>
   cases fs with
   | nil=>simp at hl
   | cons g fs =>
    cases fs with
    | nil=>exact⟨f,g,rfl⟩
    | cons x fs=>simp at hl
 simp only[List.map_cons,List.map_nil,List.cons.injEq,Prod.mk.injEq,and_true] at h
 obtain⟨⟨h1,h2,h3⟩,h4,h5,h6⟩:=h
 have hu:=Tryz.underlying25
 simp[Op.eqFields,h1,h2,h3,h4,h5,h6,go_sem,hu]
 by_cases q1:s.toList=s'.toList<;>by_cases q2:t.toList=t'.toList<;>simp[q1,q2]
theorem structQ:Tryz.prog.underlying 42=some (.struct (Tryz.prog.fieldsOf 42)):=by
 have h:=Tryz.underlying42
 unfold Program.fieldsOf
 rw[h]
theorem neqQ_run(W:World)(s t s' t':ByteArray):
  (binOp .neq 42 (.agg #[.string s,.string t]) (.agg #[.string s',.string t'])).run Tryz.prog W = .ok (.bool (!(s.toList==s'.toList&&t.toList==t'.toList))) W:=by
 rw[run_neq_struct,show (10000:Nat)=9998+1+1 from rfl,run_equalIn_agg (ht:=structQ) (hp:=stoodQ),eqFields_two W _ s t s' t' _ fieldsQ]
 rfl
theorem eqlQ_run(W:World)(s t s' t':ByteArray):
  (binOp .eql 42 (.agg #[.string s,.string t]) (.agg #[.string s',.string t'])).run Tryz.prog W = .ok (.bool (s.toList==s'.toList&&t.toList==t'.toList)) W:=by
 rw[run_eql_struct,show (10000:Nat)=9998+1+1 from rfl,run_equalIn_agg (ht:=structQ) (hp:=stoodQ),eqFields_two W _ s t s' t' _ fieldsQ]
 rfl
theorem guardQ_run(W:World)(op:BinOp)(x y:Operand)(xs ys:Array Value):(eqGuard op 42 x y (.agg xs) (.agg ys)).run Tryz.prog W = .ok () W:=run_eqGuard_agg W op _ x y xs ys guardQ
theorem toList_inj{a b:ByteArray}(h:(a.toList==b.toList)=true):a=b:=by
 have h1:=eq_of_beq h
 rw[ByteArray.toList_eq,ByteArray.toList_eq] at h1
 exact ByteArray.ext (Array.toList_inj.1 h1)
theorem qs_beq(p q:Rat):((itx p.num).toList==(itx q.num).toList&&(dec p.den).toList==(dec q.den).toList)=decide (p=q):=by
 by_cases h:p=q
 ·subst h;simp
 ·rw[decide_eq_false h,Bool.eq_false_iff]
  intro hc
  rw[Bool.and_eq_true] at hc
  exact h (Rat.ext (itx_inj (toList_inj hc.1)) (decB_inj (toList_inj hc.2)))
theorem quiet_neqQ{C:World→Prop}{K:Act→Prop}{a:Act}{o:Oper}(x y:Operand)(r:TypeId)(p q:Rat)(h:o.op = .binOp .neq 42 x y r)(hx:a.eval x = .agg #[.string (itx p.num),.string (dec p.den)])(hy:a.eval y = .agg #[.string (itx q.num),.string (dec q.den)])
  (hk:K (a.put o.dst (.bool (!decide (p=q))))):o.quiet Tryz.prog a C K :=
 ⟨_,fun w _=>by
  unfold Oper.quietAt execOp
  rw[h]
  simp only[Sem.run_bind,hx,hy,guardQ_run,neqQ_run,Result.andThen_ok,Sem.run_pure,qs_beq]
  exact⟨rfl,rfl⟩,hk⟩
theorem Sm.inv{D:Nat}{q:Rat}(h:Sm D q)(_:0<D):Sm D q⁻¹:=by
 have e:q⁻¹=Rat.inv q:=rfl
 have h1:=h.1
 have h2:=h.2
 rw[e]
 unfold Rat.inv
 split
 ·refine⟨?_,h.1⟩
  show (-(q.den:Int)).natAbs<_
  omega
 ·split
  ·exact⟨by show ((q.den:Nat):Int).natAbs<_;omega,h.1⟩
  ·exact h
theorem Sm.div{D E:Nat}{a b:Rat}(ha:Sm D a)(hb:Sm E b):Sm (D+E) (a/b):=by
 rw[Rat.div_def];exact ha.mul (hb.inv hb.pos)
def ratioK (la lb:List Rat):Nat→Rat
 | 0=>0
 | k+1=>if lb.getD k 0=0 then ratioK la lb k else la.getD k 0/lb.getD k 0
theorem getD_sm{D:Nat}{l:List Rat}(h:∀ q∈l,Sm D q)(hD:0<D)(k:Nat):Sm D (l.getD k 0):=by
 rw[List.getD_eq_getElem?_getD]
 rcases Nat.lt_or_ge k l.length with hk|hk
 ·rw[List.getElem?_eq_getElem hk];exact h _ (List.getElem_mem hk)
 ·rw[List.getElem?_eq_none hk];exact Sm.zero.le hD
theorem ratioK_sm{D:Nat}{la lb:List Rat}(ha:∀ q∈la,Sm D q)(hb:∀ q∈lb,Sm D q)(hD:0<D):∀ k,Sm (D+D) (ratioK la lb k)
 | 0=>Sm.zero.le (by omega)
 | k+1=>by
  unfold ratioK
  split
  ·exact ratioK_sm ha hb hD k
  ·exact(getD_sm ha hD k).div (getD_sm hb hD k)
def ratioB (la lb:List Rat) (n:Nat) (k:Rat):Bool:=decide (∀ j,j<n→k*lb.getD j 0=la.getD j 0)
theorem obj_pair{w:World}{g:Nat}{a b:Value}{t:TypeId}(h:w.heap[g]?=some (.cells #[a,b] t (0,0)))(x y:Value):
  ((w.setCell ⟨g,0,none⟩ x).setCell ⟨g,1,none⟩ y).heap[g]?=some (.cells #[x,y] t (0,0)):=by
 rw[obj_set (obj_set h 0 x) 1 y];rfl
theorem obj_pair_other{w:World}{g k:Nat}{o:Obj}(h:w.heap[k]?=some o)(hk:g≠k)(x y:Value):
  ((w.setCell ⟨g,0,none⟩ x).setCell ⟨g,1,none⟩ y).heap[k]?=some o:=by
 rw[obj_other hk,obj_other hk];exact h
structure BW (W:World) where
 w:World
 b:Below W.heap.size W w
theorem BW.cell{W:World}{p:Addr}{v:Value}(h:W.cell? p=some v)(q:BW W):q.w.cell? p=some v:=(q.b.cell (block_lt_of_cell h)).trans h
theorem ratio_any(w:World)(a1 a2:Option Addr)(c1 c2 n D:Nat)(la lb:List Rat)(ra:Rd w a1 (cellsQ la))(rb:Rd w a2 (cellsQ lb))(ea:la.length=n)(eb:lb.length=n)
  (sa:∀ q∈la,Sm D q) (sb:∀ q∈lb,Sm D q) (hn:n≤1000) (hD0:0<D) (hD:D≤1000) (L:Laid w) :
  Gives Tryz.prog 220 #[.slice a1 n c1,.slice a2 n c2] w (.tuple #[fr (ratioK la lb n),.bool (ratioB la lb n (ratioK la lb n))]):=by
 unfold Gives
 have HL:=hd_ L
 have Hra:=hd_ ra
 have Hrb:=hd_ rb
 have Hea:=hd_ ea
 have Heb:=hd_ eb
 have Hsa:=hd_ sa
 have Hsb:=hd_ sb
 have HD:=hd_ hD
 have HD0:=hd_ hD0
 have B0:=hd_ ((Below.refl w.heap.size w).alloc nr_ (.cells #[.string ⟨#[]⟩,.string ⟨#[]⟩] 42))
 have K0:=hd_ (heap_at w #[.string ⟨#[]⟩,.string ⟨#[]⟩] 42 _ rfl)
 have S0:Hid ((w.alloc (.cells #[.string ⟨#[]⟩,.string ⟨#[]⟩] 42)).heap.size=w.heap.size+1):=by show (w.heap.push _).size=_;exact Array.size_push ..
 have Hnum:Hid (∀ W,Below w.heap.size w W→Gives Tryz.prog 98 #[.int .i64 0] W (.agg #[.string (itx 0),.string (dec 1)])):=fun W hW=>number_any W 0 (by decide) (by decide) (HL.out.below hW)
 clear L ra rb ea eb sa sb hD hD0
 go_enter Tryz.func220,Tryz.ntmps220
 go_wp2_with fail
 generalize w.alloc (.cells #[.string ⟨#[]⟩,.string ⟨#[]⟩] 42)=w0 at *
 refine cm_ (Hnum.out _ B0.out) ?_
 rintro e w1 ⟨rfl,hb⟩
 have B1:=hd_ (B0.out.trans (hb.mono B0.out.size))
 have K1:=hd_ (heap_kept K0.out hb nr_)
 have S1:Hid (w.heap.size+1≤w1.heap.size):=by show _≤_;have:=hb.size;have:=S0.out;omega
 clear hb K0 B0 S0 Hnum
 go_wp2_with fail
 have B2:=hd_ (B1.out.alloc B1.out.size (.cells #[.string (itx 0),.string (dec 1)] 42))
 have K2:=hd_ (heap_old K1.out (.cells #[.string (itx 0),.string (dec 1)] 42))
 have M2:=hd_ (heap_at w1 #[.string (itx 0),.string (dec 1)] 42 _ rfl)
 have hne:w.heap.size≠w1.heap.size:=by have:=S1.out;omega
 have hge:w.heap.size≤w1.heap.size:=by have:=S1.out;omega
 have Hne:=hd_ hne
 have Hge:=hd_ hge
 generalize w1.alloc (.cells #[.string (itx 0),.string (dec 1)] 42)=w2 at *
 clear K1 B1 S1 hne hge
 generalize w1.heap.size=g1 at *
 go_loopw [14] (fun i wr=>∃ k:Nat,k≤n∧i = .int .i64 k∧Hid (wr.heap[w.heap.size]?=some (.cells #[.string ⟨#[]⟩,.string ⟨#[]⟩] 42 (0,0)))∧Hid (wr.heap[g1]?=some (.cells #[.string (itx (ratioK la lb k).num),.string (dec (ratioK la lb k).den)] 42 (0,0)))∧Hid (Below w.heap.size w wr)) (fun i _=>n-(intOf i).toNat)
 case atStart=>exact⟨0,Nat.zero_le _,rfl,K2,M2,B2⟩
 case round =>
  obtain⟨k,hk,rfl,K,M,B⟩:=hrel
  by_cases hlt:k<n
  ·have hlt':(k:Int)<n:=by omega
   have hkb:k<lb.length:=by rw[Heb.out];exact hlt
   have hka:k<la.length:=by rw[Hea.out];exact hlt
   obtain⟨b,off,rfl,hb,hcells⟩:=Hrb.out.open (by rw[cellsQ_length,Heb.out];omega)
   obtain⟨x0,x1⟩:=cellsS_rd hcells k (by rw[List.length_map];exact hkb)
   rw[← B.out.cell (p:=⟨b,off+k*2,none⟩) hb,qs_getD _ k hkb] at x0
   rw[← B.out.cell (p:=⟨b,off+k*2+1,none⟩) hb,qs_getD _ k hkb] at x1
   have Hxb:Hid (lb.getD k 0=lb[k]):=by show _=_;rw[List.getD_eq_getElem?_getD,List.getElem?_eq_getElem hkb];rfl
   have Hxa:Hid (la.getD k 0=la[k]):=by show _=_;rw[List.getD_eq_getElem?_getD,List.getElem?_eq_getElem hka];rfl
   have Sa:=hd_ (Hsa.out _ (List.getElem_mem hka))
   have Sb:=hd_ (Hsb.out _ (List.getElem_mem hkb))
   obtain⟨b',off',rfl,hb',hcells'⟩:=Hra.out.open (by rw[cellsQ_length,Hea.out];omega)
   obtain⟨y0,y1⟩:=cellsS_rd hcells' k (by rw[List.length_map];exact hka)
   rw[← B.out.cell (p:=⟨b',off'+k*2,none⟩) hb',qs_getD _ k hka] at y0
   rw[← B.out.cell (p:=⟨b',off'+k*2+1,none⟩) hb',qs_getD _ k hka] at y1
   have Hs:Hid (ratioK la lb (k+1)=if lb.getD k 0=0 then ratioK la lb k else la.getD k 0/lb.getD k 0):=hd_ rfl
   rw[Hxb.out,Hxa.out] at Hs
   generalize lb[k]=xb at *
   generalize la[k]=xa at *
   simp only[qs] at x0 x1 y0 y1
   clear hcells hcells' Hxb Hxa
   by_cases h0:xb=0
   ·subst h0
    have Hs':Hid (ratioK la lb (k+1)=ratioK la lb k):=by show _=_;rw[Hs.out,if_pos rfl]
    have hz:((itx (0:Int)).toList==[48])=true:=by rw[itx_isz];rfl
    have B':=hd_ (B.out.alloc B.out.size (.cells #[.string (itx 0),.string (dec 1)] 42))
    have K':=hd_ (heap_old K.out (.cells #[.string (itx 0),.string (dec 1)] 42))
    have M':=hd_ (heap_old M.out (.cells #[.string (itx 0),.string (dec 1)] 42))
    clear Hs y0 y1 B K M Sa Sb
    go_wp2_with fail
    go_roundw
    case rel =>
     refine⟨k+1,by omega,by go_num,K',?_,B'⟩
     rw[Hs'.out]
     exact M'
    case measure=>simp[intOf];omega
   ·have Hs':Hid (ratioK la lb (k+1)=xa/xb):=by show _=_;rw[Hs.out,if_neg h0]
    have hz:((itx xb.num).toList==[48])=false:=by rw[itx_isz];exact decide_eq_false fun h=>h0 (Rat.num_eq_zero.1 h)
    have B':=hd_ (B.out.alloc B.out.size (.cells #[.string (itx xb.num),.string (dec xb.den)] 42))
    have K':=hd_ (heap_old K.out (.cells #[.string (itx xb.num),.string (dec xb.den)] 42))
    have M':=hd_ (heap_old M.out (.cells #[.string (itx xb.num),.string (dec xb.den)] 42))
    have N':=hd_ (heap_at wr #[.string (itx xb.num),.string (dec xb.den)] 42 _ rfl)
    have W':=hd_ ((Below.refl wr.heap.size wr).alloc nr_ (.cells #[.string (itx xb.num),.string (dec xb.den)] 42))
    have Y0:=hd_ ((W'.out.cell (p:=⟨b',off'+k*2,none⟩) (Nat.lt_of_lt_of_le hb' B.out.size)).trans y0)
    have Y1:=hd_ ((W'.out.cell (p:=⟨b',off'+k*2+1,none⟩) (Nat.lt_of_lt_of_le hb' B.out.size)).trans y1)
    have HDv:Hid (∀ W,Below w.heap.size w W→Gives Tryz.prog 246 #[fr xa,fr xb] W (.tuple #[fr (xa/xb),.int .i64 0])):=fun W hW =>
     divR W xa xb D D Sa.out Sb.out h0 (by have:=HD.out;omega) (HL.out.below hW)
    unfold fr fv at HDv
    clear Hs y0 y1 B K M Sa Sb h0 W'
    have H0:=hd_ (show ((0:Int)≤k∧(k:Int)<n) from ⟨by omega,by omega⟩)
    go_wp2_with fail
    generalize wr.alloc (.cells #[.string (itx xb.num),.string (dec xb.den)] 42)=W0 at *
    clear x0 x1
    obtain⟨k0,k1,-,-⟩:=two_cells N'.out
    have q0:=BW.cell k0
    have q1:=BW.cell k1
    have q2:=BW.cell Y0.out
    have q3:=BW.cell Y1.out
    have hnon:Nonempty (BW W0):=⟨⟨W0,Below.refl _ _⟩⟩
    clear k0 k1 N'
    refine RP.wp_region_readers 9 [(1,0),(1,1),(1,2),(1,3),(1,4),(0,5),(2,6),(2,7),(2,8),(0,9)] (fun w'=>∃ p:BW W0,w'=p.w) (by kernel_rfl) (by kernel_rfl) ?_ ?_
    ·exact⟨⟨{ W0 with drawn:=W0.drawn+1 },⟨rfl,rfl,rfl,Nat.le_refl _,fun _ _=>rfl⟩⟩,rfl⟩
    iterate 5 (refine RP.walkR_read ?_;simp only[dsc_,dz_,tsc_,tz_];go_big_quiet_step (fail);refine wpQuiet_nil ?_)
    clear q0 q1 q2 q3 hnon
    refine RP.walkR_move ?_
    simp only[dsc_,dz_,tsc_,tz_]
    go_wp2_with fail
    refine cm_ (HDv.out _ B'.out.drew) ?_
    rintro e w5 ⟨rfl,hb5⟩
    have W5:Hid (Below W0.heap.size W0 w5):=(Below.refl W0.heap.size W0).drew.trans hb5
    have B5:=hd_ (B'.out.trans (W5.out.mono B'.out.size))
    have K5:=hd_ (heap_kept K'.out W5.out nr_)
    have M5:=hd_ (heap_kept M'.out W5.out nr_)
    clear hb5 HDv K' M' B' Y0 Y1
    go_wp2_with fail
    refine⟨⟨⟨w5,W5.out⟩,rfl⟩,?_⟩
    refine RP.walkR_any ?_
    simp only[dsc_,dz_,tsc_,tz_]
    go_big_quiet_step (fail)
    refine wpQuiet_nil ?_
    refine RP.walkR_any ?_
    simp only[dsc_,dz_,tsc_,tz_]
    go_big_quiet_step (fail)
    refine wpQuiet_nil ?_
    refine RP.walkR_any ?_
    simp only[dsc_,dz_,tsc_,tz_]
    go_big_quiet_step (fail)
    refine wpQuiet_nil ?_
    obtain⟨k0,k1,f0,f1⟩:=two_cells M5.out
    refine RP.walkR_move ?_
    simp only[dsc_,dz_,tsc_,tz_]
    go_wp2_with fail
    have B6:=hd_ ((B5.out.setCell (p:=⟨g1,0,none⟩) Hge.out (.string (itx (xa/xb).num))).setCell (p:=⟨g1,1,none⟩) Hge.out (.string (dec (xa/xb).den)))
    have M6:=hd_ (obj_pair M5.out (.string (itx (xa/xb).num)) (.string (dec (xa/xb).den)))
    have K6:=hd_ (obj_pair_other K5.out Hne.out.symm (.string (itx (xa/xb).num)) (.string (dec (xa/xb).den)))
    clear k0 k1 f0 f1 K5 M5 B5 W5
    generalize (w5.setCell ⟨g1,0,none⟩ (.string (itx (xa/xb).num))).setCell ⟨g1,1,none⟩ (.string (dec (xa/xb).den))=w6 at *
    simp only[RP.walkR]
    go_wp2
    go_roundw
    case rel =>
     refine⟨k+1,by omega,by go_num,K6,?_,B6⟩
     rw[Hs'.out]
     exact M6
    case measure=>simp[intOf];omega
  ·have hlt':¬ (k:Int)<n:=by omega
   have hkn:k=n:=by omega
   subst hkn
   clear hk hlt
   generalize hq:ratioK la lb k=q at *
   have Sq:Hid (Sm (D+D) q):=by show Sm _ q;rw[← hq];exact ratioK_sm Hsa.out Hsb.out HD0.out k
   have Hq:=hd_ hq
   clear hq
   go_wp2_with fail
   go_loopw [34] (fun i wr=>∃ j:Nat,j≤k∧i = .int .i64 j∧Hid (∀ i,i<j→q*lb.getD i 0=la.getD i 0)∧Hid (wr.heap[w.heap.size]?=some (.cells #[.string ⟨#[]⟩,.string ⟨#[]⟩] 42 (0,0)))∧Hid (wr.heap[g1]?=some (.cells #[.string (itx q.num),.string (dec q.den)] 42 (0,0)))∧Hid (Below w.heap.size w wr)) (fun i _=>k-(intOf i).toNat)
   case atStart=>exact⟨0,Nat.zero_le _,rfl,fun i hi=>absurd hi (Nat.not_lt_zero _),K,M,B⟩
   case round =>
    clear K M B
    obtain⟨j,hj,rfl,Hall,K,M,B⟩:=hrel
    by_cases hlt:j<k
    ·have hlt':(j:Int)<k:=by omega
     have hkb:j<lb.length:=by rw[Heb.out];exact hlt
     have hka:j<la.length:=by rw[Hea.out];exact hlt
     obtain⟨b,off,rfl,hb,hcells⟩:=Hrb.out.open (by rw[cellsQ_length,Heb.out];omega)
     obtain⟨x0,x1⟩:=cellsS_rd hcells j (by rw[List.length_map];exact hkb)
     rw[← B.out.cell (p:=⟨b,off+j*2,none⟩) hb,qs_getD _ j hkb] at x0
     rw[← B.out.cell (p:=⟨b,off+j*2+1,none⟩) hb,qs_getD _ j hkb] at x1
     have Hxb:Hid (lb.getD j 0=lb[j]):=by show _=_;rw[List.getD_eq_getElem?_getD,List.getElem?_eq_getElem hkb];rfl
     have Hxa:Hid (la.getD j 0=la[j]):=by show _=_;rw[List.getD_eq_getElem?_getD,List.getElem?_eq_getElem hka];rfl
     have Sb:=hd_ (Hsb.out _ (List.getElem_mem hkb))
     obtain⟨b',off',rfl,hb',hcells'⟩:=Hra.out.open (by rw[cellsQ_length,Hea.out];omega)
     obtain⟨y0,y1⟩:=cellsS_rd hcells' j (by rw[List.length_map];exact hka)
     rw[← B.out.cell (p:=⟨b',off'+j*2,none⟩) hb',qs_getD _ j hka] at y0
     rw[← B.out.cell (p:=⟨b',off'+j*2+1,none⟩) hb',qs_getD _ j hka] at y1
     generalize lb[j]=xb at *
     generalize la[j]=xa at *
     simp only[qs] at x0 x1 y0 y1
     have B':=hd_ (B.out.alloc B.out.size (.cells #[.string (itx xb.num),.string (dec xb.den)] 42))
     have K':=hd_ (heap_old K.out (.cells #[.string (itx xb.num),.string (dec xb.den)] 42))
     have M':=hd_ (heap_old M.out (.cells #[.string (itx xb.num),.string (dec xb.den)] 42))
     have N':=hd_ (heap_at wr #[.string (itx xb.num),.string (dec xb.den)] 42 _ rfl)
     have W':=hd_ ((Below.refl wr.heap.size wr).alloc nr_ (.cells #[.string (itx xb.num),.string (dec xb.den)] 42))
     have Y0:=hd_ ((W'.out.cell (p:=⟨b',off'+j*2,none⟩) (Nat.lt_of_lt_of_le hb' B.out.size)).trans y0)
     have Y1:=hd_ ((W'.out.cell (p:=⟨b',off'+j*2+1,none⟩) (Nat.lt_of_lt_of_le hb' B.out.size)).trans y1)
     have HM:Hid (∀ W,Below w.heap.size w W→∀ d os,Calls Tryz.prog 47 #[fr q,fr xb] (Go.Sort.grow (redrawn W d) os) fun e w''=>e = .returned (fr (q*xb))∧∃ p:Regrown,w''=Go.Sort.grow (redrawn W p.d) p.os):=fun W hW =>
      mulR_regrown W q xb (D+D) D Sq.out Sb.out (by have:=HD.out;omega) (HL.out.below hW)
     unfold fr fv at HM
     clear hcells hcells' y0 y1 K M B W' Sb
     have H0:=hd_ (show ((0:Int)≤j∧(j:Int)<k) from ⟨by omega,by omega⟩)
     go_wp2_with fail
     generalize wr.alloc (.cells #[.string (itx xb.num),.string (dec xb.den)] 42)=W0 at *
     clear x0 x1
     obtain⟨k0,k1,-,-⟩:=two_cells N'.out
     obtain⟨m0,m1,-,-⟩:=two_cells M'.out
     have q0:=cell_regrown k0
     have q1:=cell_regrown k1
     have q2:=cell_regrown Y0.out
     have q3:=cell_regrown Y1.out
     have q4:=cell_regrown m0
     have q5:=cell_regrown m1
     have hM:=HM.out _ B'.out
     clear k0 k1 HM N' m0 m1
     refine wp_region_quiet_below (by kernel_rfl) (by kernel_rfl) ?_
     repeat (first | go_big_quiet_step (with_reducible exact hM _ _) | quiet_step (with_reducible exact hM _ _))
     refine BigFrame.wpQuiet_want rfl fun K hK=>quiet_neqQ _ _ _ (q*xb) xa rfl rfl rfl (hK _ ?_)
     refine wpQuiet_nil ?_
     intro w2 hw2
     obtain⟨⟨dq,osq⟩,rfl⟩:=hw2
     have W2:=hd_ (below_regrown W0 dq osq)
     have B2:=hd_ (B'.out.trans (W2.out.mono B'.out.size))
     have K2:=hd_ (heap_kept K'.out W2.out nr_)
     have M2:=hd_ (heap_kept M'.out W2.out nr_)
     clear K' M' B' Y0 Y1 W2 hM q0 q1 q2 q3 q4 q5
     generalize Go.Sort.grow (redrawn W0 dq) osq=w2 at *
     by_cases hqx:q*xb=xa
     ·rw[decide_eq_true hqx]
      have Hall':Hid (∀ i,i<j+1→q*lb.getD i 0=la.getD i 0):=fun i hi=>by
       rcases Nat.lt_or_ge i j with h|h
       ·exact Hall.out i h
       ·rw[show i=j by omega,Hxb.out,Hxa.out];exact hqx
      clear hqx Hall Hxa Hxb
      go_wp2_with fail
      go_roundw
      case rel=>exact⟨j+1,by omega,by go_num,Hall',K2,M2,B2⟩
      case measure=>simp[intOf];omega
     ·rw[decide_eq_false hqx]
      have HB:Hid (ratioB la lb k q=false):=by
       show _=_
       exact decide_eq_false fun h=>hqx (by rw[← Hxb.out,← Hxa.out];exact h j hlt)
      clear hqx Hall Hxa Hxb
      obtain⟨k0,k1,f0,f1⟩:=two_cells K2.out
      obtain⟨m0,m1,-,-⟩:=two_cells M2.out
      go_wp2_with fail
      obtain⟨c0,c1,hb3⟩:=two_stored (B:=w.heap.size) (.string (itx q.num)) (.string (dec q.den)) k0 k1 nr_ B2.out
      generalize (w2.setCell ⟨w.heap.size,0,none⟩ (.string (itx q.num))).setCell ⟨w.heap.size,1,none⟩ (.string (dec q.den))=w9 at *
      rw[Hq.out,HB.out]
      exact bodyPost_ret (v := .tuple #[.agg #[.string (itx q.num),.string (dec q.den)],.bool false]) (by simp[results,Tryz.results220,go_sem,c0,c1]) rfl ⟨rfl,hb3⟩
    ·have hlt':¬ (j:Int)<k:=by omega
     have HB:Hid (ratioB la lb k q=true):=by
      show _=_
      exact decide_eq_true fun i hi=>Hall.out i (by omega)
     clear Hall
     obtain⟨k0,k1,f0,f1⟩:=two_cells K.out
     obtain⟨m0,m1,-,-⟩:=two_cells M.out
     go_wp2_with fail
     obtain⟨c0,c1,hb3⟩:=two_stored (B:=w.heap.size) (.string (itx q.num)) (.string (dec q.den)) k0 k1 nr_ B.out
     generalize (wr.setCell ⟨w.heap.size,0,none⟩ (.string (itx q.num))).setCell ⟨w.heap.size,1,none⟩ (.string (dec q.den))=w9 at *
     rw[Hq.out,HB.out]
     exact bodyPost_ret (v := .tuple #[.agg #[.string (itx q.num),.string (dec q.den)],.bool true]) (by simp[results,Tryz.results220,go_sem,c0,c1]) rfl ⟨rfl,hb3⟩
theorem Floor_of(w:World)(ps:List Int)(a0 a1 a2:Option Addr)(c0 c1 c2:Nat)(la lb:List Rat)(A:SizeOk w ps a0 a1 la 30)(B:SizeOk w ps a0 a2 lb 30)(hp:pcode ps=0)(L:Laid w)(hz:tlQ ps lb≠[])(q:Int)
  (hf:∀ W,Below w.heap.size w W→Gives Tryz.prog 193 #[.slice a0 ps.length c0,.slice a1 la.length c1,.slice a2 lb.length c2] W (.string (itx q))) :
  Gives Tryz.prog 128 #[.slice a0 ps.length c0,.slice a1 la.length c1,.slice a2 lb.length c2] w (.tuple #[.string (itx q),.int .i64 0]):=by
 unfold Gives
 have Hc:=hd_ (checkQuotient_ok w ps a0 a1 a2 c0 c1 c2 la lb A B hp L hz)
 have Hf:=hd_ hf
 clear A B hp L hz hf
 go_enter Tryz.func128,Tryz.ntmps128
 go_wp2_with fail
 refine cm_ Hc.out ?_
 rintro e w1 ⟨rfl,hb⟩
 have B1:=hd_ hb
 clear hb Hc
 go_wp2_with fail
 refine cm_ (Hf.out _ B1.out) ?_
 rintro e w2 ⟨rfl,hb⟩
 have B2:=hd_ (B1.out.trans (hb.mono B1.out.size))
 clear hb Hf
 go_wp2_with fail
 go_ret2
 exact⟨rfl,B2.out⟩
theorem Sm.two:Sm 1 2:=⟨by decide,by decide⟩
theorem part_of(w:World)(n d:Int)(v:Rat)(hof:∀ W,Below w.heap.size w W→Gives Tryz.prog 35 #[.int .i64 n,.int .i64 d] W (.tuple #[fr v,.int .i64 0])):
  Gives Tryz.prog 169 #[.int .i64 n,.int .i64 d] w (fr v):=by
 unfold Gives
 have Hof:=hd_ hof
 clear hof
 unfold fr fv at Hof ⊢
 have B0:=hd_ ((Below.refl w.heap.size w).alloc nr_ (.cells #[.string ⟨#[]⟩,.string ⟨#[]⟩] 42))
 have K0:=hd_ (heap_at w #[.string ⟨#[]⟩,.string ⟨#[]⟩] 42 _ rfl)
 go_enter Tryz.func169,Tryz.ntmps169
 go_wp2_with fail
 refine cm_ (Hof.out _ B0.out) ?_
 rintro e w1 ⟨rfl,hb⟩
 have B1:=hd_ (B0.out.trans (hb.mono B0.out.size))
 have K1:=hd_ (heap_kept K0.out hb nr_)
 clear hb B0 K0 Hof
 have B2:=hd_ (B1.out.alloc B1.out.size (.cells #[.string (itx v.num),.string (dec v.den)] 42))
 have K2:=hd_ (heap_old K1.out (.cells #[.string (itx v.num),.string (dec v.den)] 42))
 have M2:=hd_ (heap_at w1 #[.string (itx v.num),.string (dec v.den)] 42 _ rfl)
 obtain⟨k0,k1,f0,f1⟩:=two_cells K2.out
 obtain⟨m0,m1,-,-⟩:=two_cells M2.out
 go_wp2_with fail
 obtain⟨c0,c1,hb3⟩:=two_stored (B:=w.heap.size) (.string (itx v.num)) (.string (dec v.den)) k0 k1 nr_ B2.out
 exact bodyPost_ret (v := .agg #[.string (itx v.num),.string (dec v.den)]) (by simp[results,Tryz.results169,go_sem,c0,c1]) rfl ⟨rfl,hb3⟩
end Go.Proofs.YtnjedhgcfeoemaaGreatDoor

namespace Go.Proofs.YtnjedhgcfeoemaaGreatDoor
open Go.RowKit Go.Shelf
end Go.Proofs.YtnjedhgcfeoemaaGreatDoor

namespace Go.Proofs.YtnjedhgcfeoemaaGreatDoor
open Go.RowKit
theorem quiet_eqlQ{C:World→Prop}{K:Act→Prop}{a:Act}{o:Oper}(x y:Operand)(r:TypeId)(p q:Rat)(h:o.op = .binOp .eql 42 x y r)(hx:a.eval x = .agg #[.string (itx p.num),.string (dec p.den)])(hy:a.eval y = .agg #[.string (itx q.num),.string (dec q.den)])
  (hk:K (a.put o.dst (.bool (decide (p=q))))):o.quiet Tryz.prog a C K :=
 ⟨_,fun w _=>by
  unfold Oper.quietAt execOp
  rw[h]
  simp only[Sem.run_bind,hx,hy,guardQ_run,eqlQ_run,Result.andThen_ok,Sem.run_pure,qs_beq]
  exact⟨rfl,rfl⟩,hk⟩
theorem itoa_any(w:World)(z:Int)(h0 : -9223372036854775808≤z)(h1:z≤9223372036854775807)(L:Laid w):Gives Tryz.prog 144 #[.int .i64 z] w (.string (itx z)):=by
 refine(Tryz.strconv_Itoa z h0 h1 w L.tab).mono ?_
 rintro e w1 ⟨rfl,hw⟩
 exact⟨rfl,below_of_grow hw⟩
theorem num_small(n:Nat)(h:n≤100000000000000000000):Num n:=num_pow (D:=21) (by omega) (by decide) (by decide)
theorem partR(w:World)(n:Int)(d:Nat)(q1 : -9223372036854775808≤n)(q2:n≤9223372036854775807)(q3:0<d)(q4:d≤1000000)(L:Laid w):
  Gives Tryz.prog 169 #[.int .i64 n,.int .i64 d] w (fr (mkRat n d)) :=
 part_of w n d _ fun W hW=>by
  have:=ofi_frac W n d q1 q2 (by omega) (num_small _ (by omega)) (num_small _ (by omega)) q3 (num_small _ (by omega)) (num_small _ (by omega)) (L.below hW)
  rw[redV_rat n d (by omega)] at this
  exact this
instance (D:Nat) (q:Rat):Decidable (Sm D q):=by unfold Sm;infer_instance
theorem k7:((itx 7).toList==[55])=true:=by decide +kernel
theorem rd_ints{w:World}{g:Nat}{l:List Int}{t:TypeId}(h:w.heap[g]?=some (.cells (ints l).toArray t (0,0))):Rd w (some ⟨g,0,none⟩) (ints l):=by
 have:=rd_obj h
 simpa using this
def primesL:Nat→List Int
 | 0=>[2,3,5] | 1=>[2,3] | 2=>[2,3,5,7] | 3=>[2,3,7] | 4=>[3,5,7] | 5=>[2] | 6=>[2,5,7] | 7=>[2,3,11] | 8=>[2,3,5,13] | _=>[2,3,7,11]
theorem primesL_ok:∀ k,k<10→pcode (primesL k)=0∧(primesL k).length≤4∧0<(primesL k).length∧(∀ p∈primesL k,2≤p∧p≤13):=by decide +kernel
theorem primes_any(w:World)(n:Nat)(hn:n<256):
  Calls Tryz.prog 31 #[.int .u8 n] w fun e w'=>∃ g,e = .returned (.slice (some ⟨g,0,none⟩) (primesL (n%10)).length (primesL (n%10)).length)∧Rd w' (some ⟨g,0,none⟩) (ints (primesL (n%10)))∧Below w.heap.size w w':=by
 have htm:Int.tmod (n:Int) 10=((n%10:Nat):Int):=by rw[Int.tmod_eq_emod_of_nonneg (by omega)];omega
 have hk:n%10<10:=Nat.mod_lt _ (by decide)
 generalize n%10=k at *
 clear hn
 go_enter Tryz.func31,Tryz.ntmps31
 have hk':(0:Int)≤k∧(k:Int)<10:=⟨by omega,by omega⟩
 go_wp2_with fail
 go_ret
 clear hk'
 have h10:k=0∨k=1∨k=2∨k=3∨k=4∨k=5∨k=6∨k=7∨k=8∨k=9:=by omega
 rcases h10 with rfl|rfl|rfl|rfl|rfl|rfl|rfl|rfl|rfl|rfl
 all_goals
  refine⟨_,rfl,?_,?_⟩
  ·refine rd_ints (t:=3) ?_
   repeat (first | exact heap_at _ _ _ _ (by simp) | refine heap_old ?_ _)
  ·repeat (first | exact Below.refl _ _ | refine Below.alloc ?_ (by simp;try omega) _)
def densL:Nat→Nat
 | 0=>1 | 1=>2 | 2=>3 | 3=>4 | 4=>6 | _=>12
def fracQ (n:Int) (d:Nat):Rat:=mkRat (n.tmod 41) (densL (d%6))
theorem densL_ok(k:Nat):0<densL k∧densL k≤12:=by
 unfold densL;split<;>omega
theorem fraction_any(w:World)(n:Int)(d:Nat)(_ : -128≤n∧n≤127)(hd:d<256)(L:Laid w):
  Gives Tryz.prog 99 #[.agg #[.int .i8 n,.int .u8 d]] w (fr (fracQ n d)):=by
 unfold Gives
 have t1:=Int.tmod_lt_of_pos n (show (0:Int)<41 by decide)
 have t2:=Int.lt_tmod_of_pos n (show (0:Int)<41 by decide)
 have hdl:=densL_ok (d%6)
 have HP:Hid (∀ W,Below w.heap.size w W→Gives Tryz.prog 169 #[.int .i64 (n.tmod 41),.int .i64 (densL (d%6))] W (fr (fracQ n d))):=fun W hW=>partR W (n.tmod 41) (densL (d%6)) (by omega) (by omega) hdl.1 (by omega) (L.below hW)
 have htm:Int.tmod (d:Int) 6=((d%6:Nat):Int):=by rw[Int.tmod_eq_emod_of_nonneg (by omega)];omega
 have hk:d%6<6:=Nat.mod_lt _ (by decide)
 have Hx:Hid (∀ h,([Value.int .i64 1,Value.int .i64 2,Value.int .i64 3,Value.int .i64 4,Value.int .i64 6,Value.int .i64 12]:List Value)[d%6]'h = .int .i64 (densL (d%6))):=fun h=>by
  have h6:d%6=0∨d%6=1∨d%6=2∨d%6=3∨d%6=4∨d%6=5:=by omega
  generalize d%6=k at *
  rcases h6 with rfl|rfl|rfl|rfl|rfl|rfl<;>rfl
 unfold fr fv at HP ⊢
 generalize fracQ n d=q at *
 have hw:wrap64 (n.tmod 41)=n.tmod 41:=IntWalk.wrap64_in _ ⟨by omega,by omega⟩
 generalize d%6=k at *
 clear hdl L
 have hk':(0:Int)≤k∧(k:Int)<6:=⟨by omega,by omega⟩
 have B0:=hd_ (((Below.refl w.heap.size w).alloc nr_ (.cells #[.int .i8 n,.int .u8 d] 59)).alloc (by simp) (.cells #[.string ⟨#[]⟩,.string ⟨#[]⟩] 42))
 have K0:=hd_ (heap_old (heap_at w #[.int .i8 n,.int .u8 d] 59 _ rfl) (.cells #[.string ⟨#[]⟩,.string ⟨#[]⟩] 42))
 have M0:=hd_ (heap_at (w.alloc (.cells #[.int .i8 n,.int .u8 d] 59)) #[.string ⟨#[]⟩,.string ⟨#[]⟩] 42 _ rfl)
 rw[World.size_alloc] at M0
 go_enter Tryz.func99,Tryz.ntmps99
 go_wp2_with fail
 generalize (w.alloc (.cells #[.int .i8 n,.int .u8 d] 59)).alloc (.cells #[.string ⟨#[]⟩,.string ⟨#[]⟩] 42)=W0 at *
 obtain⟨k0,k1,-,-⟩:=two_cells K0.out
 have q0:=BW.cell k0
 have q1:=BW.cell k1
 have hnon:Nonempty (BW W0):=⟨⟨W0,Below.refl _ _⟩⟩
 clear k0 k1 K0
 refine RP.wp_region_readers 11 [(1,0),(1,1),(1,2),(1,3),(1,5),(1,6),(1,7),(0,4),(2,8),(0,9),(0,10),(0,11)] (fun w'=>∃ p:BW W0,w'=p.w) (by kernel_rfl) (by kernel_rfl) ?_ ?_
 ·exact⟨⟨{ W0 with drawn:=W0.drawn+1 },⟨rfl,rfl,rfl,Nat.le_refl _,fun _ _=>rfl⟩⟩,rfl⟩
 iterate 7 (refine RP.walkR_read ?_;simp only[dsc_,dz_,tsc_,tz_];go_big_quiet_step (fail);refine wpQuiet_nil ?_)
 clear q0 q1 hnon
 refine RP.walkR_move ?_
 simp only[dsc_,dz_,tsc_,tz_]
 go_wp2_with fail
 have W1:Hid (Below W0.heap.size W0 (W0.alloc (.cells #[.int .i64 1,.int .i64 2,.int .i64 3,.int .i64 4,.int .i64 6,.int .i64 12] 3)).drew):=((Below.refl W0.heap.size W0).alloc nr_ _).drew
 refine⟨⟨⟨_,W1.out⟩,rfl⟩,?_⟩
 refine RP.walkR_any ?_
 simp only[dsc_,dz_,tsc_,tz_]
 go_big_quiet_step (fail)
 refine wpQuiet_nil ?_
 refine RP.walkR_move ?_
 simp only[dsc_,dz_,tsc_,tz_]
 go_wp2_with fail
 refine⟨⟨⟨_,W1.out⟩,rfl⟩,?_⟩
 refine RP.walkR_move ?_
 simp only[dsc_,dz_,tsc_,tz_]
 simp only[Hx.out]
 go_wp2_with fail
 have B1:=hd_ (B0.out.trans (W1.out.mono B0.out.size))
 refine cm_ (HP.out _ B1.out) ?_
 rintro e w5 ⟨rfl,hb5⟩
 have W5:=hd_ (W1.out.trans (hb5.mono W1.out.size))
 have B5:=hd_ (B0.out.trans (W5.out.mono B0.out.size))
 have M5:=hd_ (heap_kept M0.out W5.out nr_)
 clear hb5 HP M0 B0 W1 B1
 go_wp2_with fail
 refine⟨⟨⟨w5,W5.out⟩,rfl⟩,?_⟩
 obtain⟨k0,k1,f0,f1⟩:=two_cells M5.out
 refine RP.walkR_move ?_
 simp only[dsc_,dz_,tsc_,tz_]
 go_wp2_with fail
 simp only[RP.walkR]
 obtain⟨c0,c1,hb3⟩:=two_stored (B:=w.heap.size) (.string (itx q.num)) (.string (dec q.den)) k0 k1 (by omega) B5.out
 go_wp2
 exact bodyPost_ret (v := .agg #[.string (itx q.num),.string (dec q.den)]) (by simp[results,Tryz.results99,go_sem,c0,c1]) rfl ⟨rfl,hb3⟩
def RdI (w:World) (a:Option Addr) (ls:List (List Int)):Prop :=
 ls=[]∨∃ b off,a=some ⟨b,off,none⟩∧b<w.heap.size∧∀ i,i<ls.length→∃ a' c',w.cell? ⟨b,off+i,none⟩=some (.slice a' (ls.getD i []).length c')∧Rd w a' (ints (ls.getD i []))
theorem RdI.below{w w':World}{a:Option Addr}{ls:List (List Int)}{B:Nat}(h:RdI w a ls)(hb:Below B w w')(hB:w.heap.size≤B):RdI w' a ls:=by
 rcases h with h|⟨b,off,h1,h2,h3⟩
 ·exact .inl h
 ·refine .inr ⟨b,off,h1,Nat.lt_of_lt_of_le h2 hb.size,fun i hi=>?_⟩
  obtain⟨a',c',h4,h5⟩:=h3 i hi
  exact⟨a',c',by rw[hb.cell (p:=⟨b,off+i,none⟩) (by show b<B;omega)];exact h4,h5.below hb hB⟩
def mx:List Int→Int
 | []=>0
 | x::l=>if 1000<x∨x < -1000 then 4 else mx l
def GivesErr (f:FuncId) (args:Array Value) (w:World) (code:Int):Prop:=Gives Tryz.prog f args w (.tuple #[.slice none 0 0,.int .i64 code])
theorem OwnQ.lower{w:World}{B B' c:Nat}{a:Option Addr}{l:List Rat}(h:OwnQ w B a c l)(hb:B'≤B):OwnQ w B' a c l:=by
 exact⟨h.1,h.2.imp id fun ⟨g,cap,cur,h1,h2,h3⟩=>⟨g,cap,cur,h1,Nat.le_trans hb h2,h3⟩⟩
theorem pcode_pos{ps:List Int}(h:pcode ps=0):0<ps.length∧ps.length≤6:=by
 unfold pcode at h
 split at h
 ·cases h
 ·split at h
  ·cases h
  ·omega
theorem tooLongR(w:World)(a:Rat):Gives Tryz.prog 214 #[fr a] w (.bool (!decide (shortQ a))):=by
 unfold Gives
 have Hs:Hid (∀ W,Gives Tryz.prog 151 #[fr a] W (.bool (decide (shortQ a)))):=fun W=>shortR W a
 unfold fr fv at Hs ⊢
 have B1:=hd_ ((Below.refl w.heap.size w).alloc nr_ (.cells #[.string (itx a.num),.string (dec a.den)] 42))
 generalize decide (shortQ a)=z at *
 go_enter Tryz.func214,Tryz.ntmps214
 go_wp2_with fail
 refine cm_ (Hs.out _) ?_
 rintro e w1 ⟨rfl,hb⟩
 have B2:=hd_ (B1.out.trans (hb.mono B1.out.size))
 clear hb
 go_wp2_with fail
 go_ret
 exact⟨rfl,B2.out⟩
def shortAll (l:List Rat):Bool:=l.all fun q=>decide (shortQ q)
theorem index_long(w:World)(a:Option Addr)(c:Nat)(l:List Rat)(hr:Rd w a (cellsQ l))(hl:l.length≤1000):
  Calls Tryz.prog 207 #[.slice a l.length c,.func (.func 214) #[] #[]] w fun e w'=>∃ i:Int,e = .returned (.int .i64 i) ∧ -1≤i∧decide (0≤i) = !shortAll l∧Below w.heap.size w w':=by
 have Hr:=hd_ hr
 clear hr
 have Hall:Hid (∀ k,k≤l.length→(∀ j (h:j<l.length),j<k→decide (shortQ l[j])=true)→k=l.length→shortAll l=true):=fun k hk h hkl=>by
  unfold shortAll
  rw[List.all_eq_true]
  intro q hq
  obtain⟨j,hj,rfl⟩:=List.mem_iff_getElem.1 hq
  exact h j hj (by omega)
 have Hone:Hid (∀ k (h:k<l.length),decide (shortQ l[k])=false→shortAll l=false):=fun k h hf=>by
  unfold shortAll
  rw[List.all_eq_false]
  exact⟨l[k],List.getElem_mem h,by rw[hf];decide⟩
 obtain⟨m,hm⟩:∃ m,l.length=m:=⟨_,rfl⟩
 rw[hm] at hl ⊢
 have Hm:=hd_ hm
 clear hm
 generalize shortAll l=z at *
 go_enter Tryz.func207,Tryz.ntmps207
 go_wp2_with fail
 go_loopw [8] (fun i wr=>∃ k:Nat,k≤m∧i = .int .i64 k∧Hid (∀ j (h:j<l.length),j<k→decide (shortQ l[j])=true)∧Hid (Below w.heap.size w wr)) (fun i _=>m-(intOf i).toNat)
 case atStart=>exact⟨0,Nat.zero_le _,rfl,fun j _ hj=>absurd hj (Nat.not_lt_zero _),Below.refl _ _⟩
 case round =>
  obtain⟨k,hk,rfl,Hp,B⟩:=hrel
  by_cases hlt:k<m
  ·have hlt':(k:Int)<m:=by omega
   have hkb:k<l.length:=by rw[Hm.out];exact hlt
   obtain⟨b,off,rfl,hb,hcells⟩:=Hr.out.open (by rw[cellsQ_length,Hm.out];omega)
   obtain⟨x0,x1⟩:=cellsS_rd hcells k (by rw[List.length_map];exact hkb)
   rw[← B.out.cell (p:=⟨b,off+k*2,none⟩) hb,qs_getD _ k hkb] at x0
   rw[← B.out.cell (p:=⟨b,off+k*2+1,none⟩) hb,qs_getD _ k hkb] at x1
   have Hc:Hid (Gives Tryz.prog 214 #[fr l[k]] wr (.bool (!decide (shortQ l[k])))):=tooLongR wr _
   unfold fr fv at Hc
   simp only[qs] at x0 x1
   clear hcells
   by_cases hs:decide (shortQ l[k])=true
   ·have Hp':Hid (∀ j (h:j<l.length),j<k+1→decide (shortQ l[j])=true):=fun j h hj=>by
     rcases Nat.lt_or_ge j k with hh|hh
     ·exact Hp.out j h hh
     ·have e:j=k:=by omega
      subst e
      exact hs
    rw[hs] at Hc
    clear hs Hp
    generalize l[k]=x at *
    go_wp2_with fail
    refine cm_ Hc.out ?_
    rintro e w1 ⟨rfl,hb1⟩
    have B1:=hd_ (B.out.trans (hb1.mono B.out.size))
    clear hb1 Hc B x0 x1
    go_wp2_with fail
    go_roundw
    case rel=>exact⟨k+1,by omega,by go_num,Hp',B1⟩
    case measure=>simp[intOf];omega
   ·have hs':decide (shortQ l[k])=false:=by simpa using hs
    have Hz:=hd_ (Hone.out k hkb hs')
    rw[hs'] at Hc
    clear hs hs' Hp
    generalize l[k]=x at *
    go_wp2_with fail
    refine cm_ Hc.out ?_
    rintro e w1 ⟨rfl,hb1⟩
    have B1:=hd_ (B.out.trans (hb1.mono B.out.size))
    clear hb1 Hc B x0 x1
    go_wp2_with fail
    go_ret
    exact⟨k,rfl,by omega,by rw[Hz.out];exact decide_eq_true (by omega),B1.out⟩
  ·have hlt':¬ (k:Int)<m:=by omega
   have Hz:=hd_ (Hall.out k (by rw[Hm.out];exact hk) Hp.out (by rw[Hm.out];omega))
   clear Hp
   go_wp2_with fail
   go_ret
   exact⟨-1,rfl,by decide,by rw[Hz.out];rfl,B.out⟩
theorem contains_long(w:World)(a:Option Addr)(c:Nat)(l:List Rat)(hr:Rd w a (cellsQ l))(hl:l.length≤1000):
  Gives Tryz.prog 161 #[.slice a l.length c,.func (.func 214) #[] #[]] w (.bool (!shortAll l)):=by
 unfold Gives
 have Hi:=hd_ (index_long w a c l hr hl)
 clear hr hl
 generalize shortAll l=z at *
 go_enter Tryz.func161,Tryz.ntmps161
 go_wp2_with fail
 refine cm_ Hi.out ?_
 rintro e w1 ⟨i,rfl,hi1,hi2,hb⟩
 have B:=hd_ hb
 have Hz:=hd_ hi2
 clear hb Hi hi2
 go_wp2_with fail
 go_ret
 exact⟨by rw[← Hz.out];rfl,B.out⟩
theorem result_fine(w:World)(a:Option Addr)(c:Nat)(l:List Rat)(hr:Rd w a (cellsQ l))(hl:l.length≤1000)(hs:shortAll l=true):
  Gives Tryz.prog 175 #[.slice a l.length c] w (.tuple #[.slice a l.length c,.int .i64 0]):=by
 unfold Gives
 have Hi:=hd_ (contains_long w a c l hr hl)
 rw[hs] at Hi
 clear hr hl hs
 go_enter Tryz.func175,Tryz.ntmps175
 go_wp2_with fail
 refine cm_ Hi.out ?_
 rintro e w1 ⟨rfl,hb⟩
 have B:=hd_ hb
 clear hb Hi
 go_wp2_with fail
 go_ret2
 exact⟨rfl,B.out⟩
theorem result_long(w:World)(a:Option Addr)(c:Nat)(l:List Rat)(hr:Rd w a (cellsQ l))(hl:l.length≤1000)(hs:shortAll l=false):
  GivesErr 175 #[.slice a l.length c] w 4:=by
 unfold GivesErr Gives
 have Hi:=hd_ (contains_long w a c l hr hl)
 rw[hs] at Hi
 clear hr hl hs
 go_enter Tryz.func175,Tryz.ntmps175
 go_wp2_with fail
 refine cm_ Hi.out ?_
 rintro e w1 ⟨rfl,hb⟩
 have B:=hd_ hb
 clear hb Hi
 go_wp2_with fail
 go_ret2
 exact⟨rfl,B.out⟩
open Classical in
noncomputable def wrongB (x:ByteArray×ByteArray):Bool := !decide (IsQ x.1 x.2)
open Classical in
noncomputable def rightAll (l:List (ByteArray×ByteArray)):Bool:=l.all fun x=>decide (IsQ x.1 x.2)
open Classical in
theorem wrongR(w:World)(s t:ByteArray)(hs:s.size≤10000000)(ht:t.size≤10000000)(L:Laid w):Gives Tryz.prog 174 #[.agg #[.string s,.string t]] w (.bool (wrongB (s,t))):=by
 have Hs:Hid (∃ z:Int,∀ W,Below w.heap.size w W→Gives Tryz.prog 150 #[.agg #[.string s,.string t]] W (.int .i64 z))∧True:=by
  refine⟨?_,trivial⟩
  by_cases h:IsQ s t
  ·obtain⟨q,rfl,rfl,hq⟩:=h
   exact⟨0,fun W hW=>checkR W q hq (L.below hW)⟩
  ·exact⟨2,fun W hW=>checkS_no W s t hs ht h (L.below hW)⟩
 have Hz:∃ z:Int,(z==0) = !(wrongB (s,t))∧∀ W,Below w.heap.size w W→Gives Tryz.prog 150 #[.agg #[.string s,.string t]] W (.int .i64 z):=by
  by_cases h:IsQ s t
  ·refine⟨0,by unfold wrongB;rw[decide_eq_true h];rfl,?_⟩
   obtain⟨q,rfl,rfl,hq⟩:=h
   exact fun W hW=>checkR W q hq (L.below hW)
  ·exact⟨2,by unfold wrongB;rw[decide_eq_false h];rfl,fun W hW=>checkS_no W s t hs ht h (L.below hW)⟩
 obtain⟨z,hz,hc⟩:=Hz
 have Hc:=hd_ hc
 clear Hs hc hs ht L
 unfold Gives
 generalize wrongB (s,t)=b at *
 have B1:=hd_ ((Below.refl w.heap.size w).alloc nr_ (.cells #[.string s,.string t] 42))
 go_enter Tryz.func174,Tryz.ntmps174
 go_wp2_with fail
 refine cm_ (Hc.out _ B1.out) ?_
 rintro e w1 ⟨rfl,hb⟩
 have B2:=hd_ (B1.out.trans (hb.mono B1.out.size))
 have Hz:=hd_ hz
 clear hb hz
 go_wp2_with fail
 go_ret
 refine⟨?_,B2.out⟩
 have:=Hz.out
 cases b
 ·have h1:(z==0)=true:=this
  have h2:z=0:=by simpa using h1
  subst h2;rfl
 ·have h1:(z==0)=false:=this
  have h2:z≠0:=by simpa using h1
  show Ending.returned (Value.bool _)=_
  first | rfl | (simp[h2])
theorem index_wrong(w:World)(a:Option Addr)(c:Nat)(l:Pairs)(hr:Rd w a (cellsS l))(hl:l.length≤1000)(hs:Ssz l)(L:Laid w):
  Calls Tryz.prog 213 #[.slice a l.length c,.func (.func 174) #[] #[]] w fun e w'=>∃ i:Int,e = .returned (.int .i64 i) ∧ -1≤i∧decide (0≤i) = !rightAll l∧Below w.heap.size w w':=by
 have Hr:=hd_ hr
 have Hs:=hd_ hs
 have HL:=hd_ L
 clear hr hs L
 have Hall:Hid (∀ k,k≤l.length→(∀ j (h:j<l.length),j<k→wrongB l[j]=false)→k=l.length→rightAll l=true):=fun k hk h hkl=>by
  unfold rightAll
  rw[List.all_eq_true]
  intro q hq
  obtain⟨j,hj,rfl⟩:=List.mem_iff_getElem.1 hq
  have:=h j hj (by omega)
  unfold wrongB at this
  simpa using this
 have Hone:Hid (∀ k (h:k<l.length),wrongB l[k]=true→rightAll l=false):=fun k h hf=>by
  unfold rightAll
  rw[List.all_eq_false]
  unfold wrongB at hf
  exact⟨l[k],List.getElem_mem h,by simpa using hf⟩
 obtain⟨m,hm⟩:∃ m,l.length=m:=⟨_,rfl⟩
 rw[hm] at hl ⊢
 have Hm:=hd_ hm
 clear hm
 generalize rightAll l=z at *
 go_enter Tryz.func213,Tryz.ntmps213
 go_wp2_with fail
 go_loopw [8] (fun i wr=>∃ k:Nat,k≤m∧i = .int .i64 k∧Hid (∀ j (h:j<l.length),j<k→wrongB l[j]=false)∧Hid (Below w.heap.size w wr)) (fun i _=>m-(intOf i).toNat)
 case atStart=>exact⟨0,Nat.zero_le _,rfl,fun j _ hj=>absurd hj (Nat.not_lt_zero _),Below.refl _ _⟩
 case round =>
  obtain⟨k,hk,rfl,Hp,B⟩:=hrel
  by_cases hlt:k<m
  ·have hlt':(k:Int)<m:=by omega
   have hkb:k<l.length:=by rw[Hm.out];exact hlt
   obtain⟨b,off,rfl,hb,hcells⟩:=Hr.out.open (by rw[cellsS_length,Hm.out];omega)
   obtain⟨x0,x1⟩:=cellsS_rd hcells k hkb
   rw[← B.out.cell (p:=⟨b,off+k*2,none⟩) hb,show l.getD k default=l[k] by rw[List.getD_eq_getElem?_getD,List.getElem?_eq_getElem hkb];rfl] at x0
   rw[← B.out.cell (p:=⟨b,off+k*2+1,none⟩) hb,show l.getD k default=l[k] by rw[List.getD_eq_getElem?_getD,List.getElem?_eq_getElem hkb];rfl] at x1
   have hsz:=Hs.out _ (List.getElem_mem hkb)
   have Hc:Hid (Gives Tryz.prog 174 #[.agg #[.string l[k].1,.string l[k].2]] wr (.bool (wrongB l[k]))):=wrongR wr _ _ (by omega) (by omega) (HL.out.below B.out)
   clear hcells hsz
   by_cases hs:wrongB l[k]=false
   ·have Hp':Hid (∀ j (h:j<l.length),j<k+1→wrongB l[j]=false):=fun j h hj=>by
     rcases Nat.lt_or_ge j k with hh|hh
     ·exact Hp.out j h hh
     ·have e:j=k:=by omega
      subst e
      exact hs
    rw[hs] at Hc
    clear hs Hp
    generalize l[k]=x at *
    go_wp2_with fail
    refine cm_ Hc.out ?_
    rintro e w1 ⟨rfl,hb1⟩
    have B1:=hd_ (B.out.trans (hb1.mono B.out.size))
    clear hb1 Hc B x0 x1
    go_wp2_with fail
    go_roundw
    case rel=>exact⟨k+1,by omega,by go_num,Hp',B1⟩
    case measure=>simp[intOf];omega
   ·have hs':wrongB l[k]=true:=by simpa using hs
    have Hz:=hd_ (Hone.out k hkb hs')
    rw[hs'] at Hc
    clear hs hs' Hp
    generalize l[k]=x at *
    go_wp2_with fail
    refine cm_ Hc.out ?_
    rintro e w1 ⟨rfl,hb1⟩
    have B1:=hd_ (B.out.trans (hb1.mono B.out.size))
    clear hb1 Hc B x0 x1
    go_wp2_with fail
    go_ret
    exact⟨k,rfl,by omega,by rw[Hz.out];exact decide_eq_true (by omega),B1.out⟩
  ·have hlt':¬ (k:Int)<m:=by omega
   have Hz:=hd_ (Hall.out k (by rw[Hm.out];exact hk) Hp.out (by rw[Hm.out];omega))
   clear Hp
   go_wp2_with fail
   go_ret
   exact⟨-1,rfl,by decide,by rw[Hz.out];rfl,B.out⟩
theorem contains_wrong(w:World)(a:Option Addr)(c:Nat)(l:Pairs)(hr:Rd w a (cellsS l))(hl:l.length≤1000)(hs:Ssz l)(L:Laid w):
  Gives Tryz.prog 173 #[.slice a l.length c,.func (.func 174) #[] #[]] w (.bool (!rightAll l)):=by
 unfold Gives
 have Hi:=hd_ (index_wrong w a c l hr hl hs L)
 clear hr hl hs L
 generalize rightAll l=z at *
 go_enter Tryz.func173,Tryz.ntmps173
 go_wp2_with fail
 refine cm_ Hi.out ?_
 rintro e w1 ⟨i,rfl,hi1,hi2,hb⟩
 have B:=hd_ hb
 have Hz:=hd_ hi2
 clear hb Hi hi2
 go_wp2_with fail
 go_ret
 exact⟨by rw[← Hz.out];rfl,B.out⟩
theorem lgo_ok(n:Nat):∀ ls:List (List Rat),(∀ l∈ls,l.length=n∧∀ q∈l,Sm 30 q)→lgo n (ls.map (List.map qs))=0
 | [],_=>rfl
 | l::ls,h=>by
  have h1:=h l List.mem_cons_self
  rw[List.map_cons,lgo,if_pos (scode_ok h1.2 h1.1)]
  exact lgo_ok n ls fun m hm=>h m (List.mem_cons_of_mem _ hm)
theorem lcode_ok{ps:List Int}(hp:pcode ps=0){ls:List (List Rat)}(h:∀ l∈ls,l.length=ps.length∧∀ q∈l,Sm 30 q):lcode ps (ls.map (List.map qs))=0:=by
 unfold lcode
 rw[if_pos hp]
 exact lgo_ok _ ls h
open Classical in
theorem rightAll_qs(l:List Rat)(h:∀ q∈l,Sm 400 q):rightAll (l.map qs)=true:=by
 unfold rightAll
 rw[List.all_eq_true]
 intro x hx
 obtain⟨q,hq,rfl⟩:=List.mem_map.1 hx
 exact decide_eq_true ⟨q,rfl,rfl,h q hq⟩
def GivesSum (f:FuncId) (args:Array Value) (w:World) (l:List Rat):Prop:=if shortAll l=true then
  Calls Tryz.prog f args w fun e w'=>∃ a c,e = .returned (.tuple #[.slice a l.length c,.int .i64 0])∧Rd w' a (cellsQ l)∧Below w.heap.size w w'
 else GivesErr f args w 4
theorem combine_fine(w:World)(a0 a1 a2:Option Addr)(c0 c1 c2:Nat)(ps:List Int)(ls:List (List Rat))(fs:List Rat)(rp:Rd w a0 (ints ps))(hi:I64s ps)(hp:pcode ps=0)(rl:RdL w a1 (ls.map (List.map qs)))(hl:ls.length≤100)
  (h:∀ l∈ls,l.length=ps.length∧∀ q∈l,Sm 30 q) (rf:Rd w a2 (cellsQ fs)) (hf:fs.length=ls.length) (hfs:∀ q∈fs,Sm 400 q) (L:Laid w) :
  GivesSum 103 #[.slice a0 ps.length c0,.slice a1 ls.length c1,.slice a2 fs.length c2] w (sumQ ps.length ls fs):=by
 have hn:=pcode_pos hp
 have H1:=hd_ (checkAll_any w a0 a1 c0 c1 ps (ls.map (List.map qs)) rp hi (by omega) rl (by rw[List.length_map];omega) (by
  intro l hl'
  obtain⟨m,hm,rfl⟩:=List.mem_map.1 hl'
  exact⟨by rw[List.length_map,(h m hm).1];omega,ssz_ok (h m hm).2⟩) L)
 rw[lcode_ok hp h,List.length_map] at H1
 have H2:Hid (∀ W,Below w.heap.size w W→Gives Tryz.prog 173 #[.slice a2 fs.length c2,.func (.func 174) #[] #[]] W (.bool false)):=fun W hW=>by
  have:=contains_wrong W a2 c2 (fs.map qs) (rf.below hW nr_) (by rw[List.length_map];omega) (fun x hx=>by
   obtain⟨q,hq,rfl⟩:=List.mem_map.1 hx
   have h1:=itx_size q.num 400 (by decide) (hfs q hq).1
   have h2:=(size_lt q.den 400 (by decide)).2 (hfs q hq).2
   exact⟨by show (itx q.num).size≤_;omega,by show (dec q.den).size≤_;omega⟩) (L.below hW)
  rw[rightAll_qs fs hfs,List.length_map] at this
  exact this
 have H3:Hid (∀ W,Below w.heap.size w W→GivesQ 97 #[.int .i64 ps.length,.slice a1 ls.length c1,.slice a2 fs.length c2] W (sumQ ps.length ls fs)):=fun W hW =>
  sum_any W a1 a2 c1 c2 ps.length ls fs 30 400 (rl.below hW nr_) (rf.below hW nr_) (fun l hl'=>(h l hl').1) hf (fun l hl'=>(h l hl').2) hfs (by omega) (by omega) (by
   have:(ls.length+1)*(30+400+1)≤101*(30+400+1):=Nat.mul_le_mul_right _ (by omega)
   omega) (L.below hW)
 have hsl:=sumQ_length ps.length ls fs (fun l hl'=>(h l hl').1) hf
 have H4:Hid (∀ W a c,Rd W a (cellsQ (sumQ ps.length ls fs))→shortAll (sumQ ps.length ls fs)=true→Gives Tryz.prog 175 #[.slice a (sumQ ps.length ls fs).length c] W (.tuple #[.slice a (sumQ ps.length ls fs).length c,.int .i64 0])):=fun W a c hr hs=>result_fine W a c _ hr (by omega) hs
 have H5:Hid (∀ W a c,Rd W a (cellsQ (sumQ ps.length ls fs))→shortAll (sumQ ps.length ls fs)=false→Gives Tryz.prog 175 #[.slice a (sumQ ps.length ls fs).length c] W (.tuple #[.slice none 0 0,.int .i64 4])):=fun W a c hr hs=>result_long W a c _ hr (by omega) hs
 unfold GivesQ at H3
 clear rp hi hp rl hl h rf hfs L hn hsl
 rw[hf] at *
 generalize sumQ ps.length ls fs=S at *
 generalize ps.length=n at *
 generalize ls.length=k at *
 unfold GivesSum GivesErr Gives
 by_cases hs:shortAll S=true
 ·rw[if_pos hs]
  have Hs:=hd_ hs
  clear H5 hs
  go_enter Tryz.func103,Tryz.ntmps103
  go_wp2_with fail
  refine cm_ H1.out ?_
  rintro e w1 ⟨rfl,hb1⟩
  have Hb1:=hd_ hb1
  clear hb1 H1
  go_wp2_with fail
  refine cm_ (H2.out _ Hb1.out) ?_
  rintro e w2 ⟨rfl,hb2⟩
  have Hb2:=hd_ (Hb1.out.trans (hb2.mono Hb1.out.size))
  clear hb2 H2 Hb1
  go_wp2_with fail
  refine cm_ (H3.out _ Hb2.out) ?_
  rintro e w3 ⟨a,c,rfl,ho,hb3⟩
  have Hb3:=hd_ (Hb2.out.trans (hb3.mono Hb2.out.size))
  have Hr:=hd_ ho.rd
  clear hb3 H3 Hb2 ho
  go_wp2_with fail
  refine cm_ (H4.out _ _ _ Hr.out Hs.out) ?_
  rintro e w4 ⟨rfl,hb4⟩
  have Hb4:=hd_ (Hb3.out.trans (hb4.mono Hb3.out.size))
  have Hr4:=hd_ (Hr.out.below hb4 nr_)
  clear hb4 H4 Hb3 Hr
  go_wp2_with fail
  go_ret2
  exact⟨a,c,rfl,Hr4.out,Hb4.out⟩
 ·rw[if_neg hs]
  have Hs:Hid (shortAll S=false):=by show _=_;simpa using hs
  clear H4 hs
  go_enter Tryz.func103,Tryz.ntmps103
  go_wp2_with fail
  refine cm_ H1.out ?_
  rintro e w1 ⟨rfl,hb1⟩
  have Hb1:=hd_ hb1
  clear hb1 H1
  go_wp2_with fail
  refine cm_ (H2.out _ Hb1.out) ?_
  rintro e w2 ⟨rfl,hb2⟩
  have Hb2:=hd_ (Hb1.out.trans (hb2.mono Hb1.out.size))
  clear hb2 H2 Hb1
  go_wp2_with fail
  refine cm_ (H3.out _ Hb2.out) ?_
  rintro e w3 ⟨a,c,rfl,ho,hb3⟩
  have Hb3:=hd_ (Hb2.out.trans (hb3.mono Hb2.out.size))
  have Hr:=hd_ ho.rd
  clear hb3 H3 Hb2 ho
  go_wp2_with fail
  refine cm_ (H5.out _ _ _ Hr.out Hs.out) ?_
  rintro e w4 ⟨rfl,hb4⟩
  have Hb4:=hd_ (Hb3.out.trans (hb4.mono Hb3.out.size))
  clear hb4 H5 Hb3 Hr
  go_wp2_with fail
  go_ret2
  exact⟨rfl,Hb4.out⟩
def partsV (nu:Nat→Int) (de:Nat→Nat):Array Value := #[.int .i8 (nu 0),.int .u8 (de 0),.int .i8 (nu 1),.int .u8 (de 1),.int .i8 (nu 2),.int .u8 (de 2),.int .i8 (nu 3),.int .u8 (de 3)]
def partsQ (nu:Nat→Int) (de:Nat→Nat) (m:Nat):List Rat:=(List.range m).map fun i=>fracQ (nu i) (de i)
theorem partsQ_length(nu:Nat→Int)(de:Nat→Nat)(m:Nat):(partsQ nu de m).length=m:=by simp[partsQ]
theorem partsQ_succ(nu:Nat→Int)(de:Nat→Nat)(m:Nat):partsQ nu de (m+1)=partsQ nu de m++[fracQ (nu m) (de m)]:=by simp[partsQ,List.range_succ]
theorem parts_cells{w:World}{g:Nat}{nu:Nat→Int}{de:Nat→Nat}{t:TypeId}(h:w.heap[g]?=some (.cells (partsV nu de) t (0,0)))(k:Nat)(hk:k<4):
  w.cell? ⟨g,k*2,none⟩=some (.int .i8 (nu k))∧w.cell? ⟨g,k*2+1,none⟩=some (.int .u8 (de k)):=by
 have h4:k=0∨k=1∨k=2∨k=3:=by omega
 rcases h4 with rfl|rfl|rfl|rfl<;>exact⟨by rw[cell_of_row w g _ _ t (0,0) h];rfl,by rw[cell_of_row w g _ _ t (0,0) h];rfl⟩
theorem ownS_own{w:World}{B c:Nat}{a:Option Addr}{l:List Rat}(h:OwnQ w B a c l):w.ownsRow B 42 2 (.slice a l.length c) l.length (cellsQ l):=by
 have:w.ownsRow B 42 2 (.slice a (l.map qs).length c) (l.map qs).length (cellsS (l.map qs)):=h
 rw[List.length_map] at this
 exact this
theorem own_ownQ{w:World}{B c:Nat}{a:Option Addr}{l:List Rat}(h:w.ownsRow B 42 2 (.slice a l.length c) l.length (cellsQ l)):OwnQ w B a c l:=by
 show w.ownsRow B 42 2 (.slice a (l.map qs).length c) (l.map qs).length (cellsS (l.map qs))
 rw[List.length_map]
 exact h
theorem make_any(w:World)(a0:Option Addr)(c0 m:Nat)(hm:m≤4)(nu:Nat→Int)(de:Nat→Nat)(hn:∀ k,-128≤nu k∧nu k≤127)(hd:∀ k,de k<256)(L:Laid w):
  Calls Tryz.prog 33 #[.slice a0 m c0,.agg (partsV nu de)] w fun e w'=>∃ a c,e = .returned (.slice a m c)∧OwnQ w' w.heap.size a c (partsQ nu de m)∧Below w.heap.size w w':=by
 have HF:Hid (∀ W k,Below w.heap.size w W→Gives Tryz.prog 99 #[.agg #[.int .i8 (nu k),.int .u8 (de k)]] W (fr (fracQ (nu k) (de k)))):=fun W k hW=>fraction_any W (nu k) (de k) (hn k) (hd k) (L.below hW)
 unfold fr fv at HF
 have B0:=hd_ (((Below.refl w.heap.size w).alloc nr_ (.cells (partsV nu de) 61)).alloc (by simp) (.cells #[] 42))
 have K0:=hd_ (heap_old (heap_at w (partsV nu de) 61 _ rfl) (.cells #[] 42))
 have O0:Hid (OwnQ ((w.alloc (.cells (partsV nu de) 61)).alloc (.cells #[] 42)) (w.heap.size+1) (some ⟨w.heap.size+1,0,none⟩) 0 (partsQ nu de 0)):=by
  have:=own_madeS (w.alloc (.cells (partsV nu de) 61)) [] (by simp)
  rw[World.size_alloc] at this
  exact this
 have Hp0:Hid (partsV nu de = #[.int .i8 (nu 0),.int .u8 (de 0),.int .i8 (nu 1),.int .u8 (de 1),.int .i8 (nu 2),.int .u8 (de 2),.int .i8 (nu 3),.int .u8 (de 3)]):=hd_ rfl
 clear L hn hd
 unfold partsV at *
 go_enter Tryz.func33,Tryz.ntmps33
 go_wp2_with fail
 generalize (w.alloc (.cells #[.int .i8 (nu 0),.int .u8 (de 0),.int .i8 (nu 1),.int .u8 (de 1),.int .i8 (nu 2),.int .u8 (de 2),.int .i8 (nu 3),.int .u8 (de 3)] 61)).alloc (.cells #[] 42)=W0 at *
 go_loopw [5,6] (fun o i wr=>∃ (k:Nat) (b:Option Addr) (d:Nat),k≤m∧i = .int .i64 k∧o = .slice b k d∧Hid (wr.heap[w.heap.size]?=some (.cells #[.int .i8 (nu 0),.int .u8 (de 0),.int .i8 (nu 1),.int .u8 (de 1),.int .i8 (nu 2),.int .u8 (de 2),.int .i8 (nu 3),.int .u8 (de 3)] 61 (0,0)))∧Hid (OwnQ wr (w.heap.size+1) b d (partsQ nu de k))∧Hid (Below w.heap.size w wr)) (fun _ i _=>m-(intOf i).toNat)
 case atStart=>exact⟨0,_,_,Nat.zero_le _,rfl,rfl,K0,O0,B0⟩
 case round =>
  clear B0 K0 O0
  obtain⟨k,b,d,hk,rfl,rfl,K,O,B⟩:=hrel
  by_cases hlt:k<m
  ·have hlt':(k:Int)<m:=by omega
   have htm:Int.tmod (k:Int) 4=k:=by rw[Int.tmod_eq_emod_of_nonneg (by omega)];omega
   obtain⟨x0,x1⟩:=parts_cells (nu:=nu) (de:=de) K.out k (by omega)
   have hk4:(0:Int)≤k∧(k:Int)<4:=⟨by omega,by omega⟩
   have Hf:=hd_ (HF.out wr k B.out)
   have Hs:=hd_ (partsQ_succ nu de k)
   generalize fracQ (nu k) (de k)=q at *
   generalize nu k=z at *
   generalize de k=y at *
   go_wp2_with fail
   refine cm_ Hf.out ?_
   rintro e w1 ⟨rfl,hb1⟩
   have hsz:=(Array.getElem?_eq_some_iff.1 K.out).1
   have B1:=hd_ (B.out.trans (hb1.mono B.out.size))
   have K1:=hd_ (heap_kept K.out hb1 nr_)
   have O1:=hd_ (O.out.below hb1 nr_)
   have S1:=hd_ (Nat.le_trans hsz hb1.size)
   clear hb1 Hf B K O x0 x1 hsz
   have Ow:Hid (w1.ownsRow (w.heap.size+1) 42 2 (.slice b k d) k (cellsQ (partsQ nu de k))):=by
    have:=ownS_own O1.out
    rw[partsQ_length] at this
    exact this
   go_wp2_with (at_builtin;refine wpList_append_new rfl (.tmp 14) (.tmp 20) 38 rfl elQ _ 1 [.string (itx q.num),.string (dec q.den)] rfl rfl Ow.out S1.out rfl (by simp[Value.oneCell']) (by omega) (by omega) ?_)
   intro v' w3 hown3 hg3 hnil3
   have hlow:∀ j,j<w.heap.size+1→w3.heap[j]?=w1.heap[j]?:=fun j hj=>by
    have hs1:=S1.out
    have hjl:j<w1.heap.size:=by omega
    rw[hg3.block j (by simp;omega) (fun e=>by have:=(Ow.out.lt j e.symm).1;omega)]
    exact((Below.refl w1.heap.size w1).alloc nr_ _).block j hjl
   have K3:Hid (w3.heap[w.heap.size]?=some (.cells #[.int .i8 (nu 0),.int .u8 (de 0),.int .i8 (nu 1),.int .u8 (de 1),.int .i8 (nu 2),.int .u8 (de 2),.int .i8 (nu 3),.int .u8 (de 3)] 61 (0,0))):=by
    show _=_
    rw[hlow _ (by omega)]
    exact K1.out
   have B3:Hid (Below w.heap.size w w3):=(B1.out.alloc B1.out.size _).grown hg3 (by simp;have:=B1.out.size;omega) (fun j hj=>by have:=(Ow.out.lt j hj).1;omega)
   obtain⟨b3,d3,rfl⟩:=own_form hown3
   have O3:Hid (OwnQ w3 (w.heap.size+1) b3 d3 (partsQ nu de (k+1))):=by
    refine own_ownQ ?_
    rw[partsQ_length,Hs.out]
    unfold cellsQ
    rw[List.map_append,cellsS_append]
    exact hown3
   clear hown3 hg3 hnil3 hlow B1 K1 O1 S1 Ow
   go_wp2_with fail
   go_roundw
   case rel=>exact⟨k+1,b3,d3,by omega,by go_num,rfl,K3,O3,B3⟩
   case measure=>simp[intOf];omega
  ·have hlt':¬ (k:Int)<m:=by omega
   have hkm:k=m:=by omega
   subst hkm
   go_wp2_with fail
   go_ret
   exact⟨b,d,rfl,O.out.lower (by omega),B.out⟩
def GivesC (f:FuncId) (args:Array Value) (w:World) (code:Int) (l:List Rat):Prop :=
 Calls Tryz.prog f args w fun e w'=>∃ a c,e = .returned (.tuple #[.slice a (if code=0 then l.length else 0) c,.int .i64 code])∧(code=0→Rd w' a (cellsQ l))∧Below w.heap.size w w'
def sumCode (l:List Rat):Int:=if shortAll l=true then 0 else 4
theorem GivesSum.code{f:FuncId}{args:Array Value}{w:World}{l:List Rat}(h:GivesSum f args w l):GivesC f args w (sumCode l) l:=by
 unfold GivesSum at h
 unfold GivesC sumCode
 by_cases hs:shortAll l=true
 ·rw[if_pos hs] at h ⊢
  refine cm_ h ?_
  rintro e w' ⟨a,c,rfl,hr,hb⟩
  exact⟨a,c,rfl,fun _=>hr,hb⟩
 ·rw[if_neg hs] at h ⊢
  refine cm_ h ?_
  rintro e w' ⟨rfl,hb⟩
  exact⟨none,0,rfl,fun h4=>absurd h4 (by decide),hb⟩
theorem GivesErr.code{f:FuncId}{args:Array Value}{w:World}{code:Int}(hc:code≠0)(l:List Rat)(h:GivesErr f args w code):GivesC f args w code l:=by
 unfold GivesC
 rw[if_neg hc]
 refine cm_ h ?_
 rintro e w' ⟨rfl,hb⟩
 exact⟨none,0,rfl,fun h4=>absurd h4 hc,hb⟩
theorem GivesC.lower{f:FuncId}{args:Array Value}{w:World}{code:Int}{l:List Rat}(h:GivesC f args w code l):∃ z:Nat,Calls Tryz.prog f args w fun e w'=>∃ a c,e = .returned (.tuple #[.slice a z c,.int .i64 code])∧(code=0→Rd w' a (cellsQ l))∧Below w.heap.size w w':=⟨_,h⟩
theorem add_gen(w:World)(ps:List Int)(a0 a1 a2:Option Addr)(c0 c1 c2:Nat)(la lb:List Rat)(rp:Rd w a0 (ints ps))(hi:I64s ps)(hp:pcode ps=0)(r1:Rd w a1 (cellsQ la))(r2:Rd w a2 (cellsQ lb))(l1:la.length=ps.length)(l2:lb.length=ps.length)
  (s1:∀ q∈la,Sm 30 q) (s2:∀ q∈lb,Sm 30 q) (L:Laid w) :
  GivesC 56 #[.slice a0 ps.length c0,.slice a1 la.length c1,.slice a2 lb.length c2] w (sumCode (sumQ ps.length [la,lb] [1,((1:Int):Rat)])) (sumQ ps.length [la,lb] [1,((1:Int):Rat)]):=by
 obtain⟨u,hu⟩:∃ q:Rat,q=1:=⟨_,rfl⟩
 obtain⟨v,hv⟩:∃ q:Rat,q=((1:Int):Rat):=⟨_,rfl⟩
 rw[← hv,← hu]
 have Hc:Hid (∀ W g1 g2,Below w.heap.size w W→W.heap[g1]?=some (.cells #[.slice a1 la.length c1,.slice a2 lb.length c2] 38 (0,0))→W.heap[g2]?=some (.cells #[.string (itx u.num),.string (dec u.den),.string (itx v.num),.string (dec v.den)] 42 (0,0)) →
   GivesC 103 #[.slice a0 ps.length c0,.slice (some ⟨g1,0,none⟩) 2 2,.slice (some ⟨g2,0,none⟩) 2 2] W (sumCode (sumQ ps.length [la,lb] [u,v])) (sumQ ps.length [la,lb] [u,v])):=fun W g1 g2 hW h1 h2 =>
  (combine_fine W a0 _ _ c0 2 2 ps [la,lb] [u,v] (rp.below hW nr_) hi hp (rdl_two (l1:=la.map qs) (l2:=lb.map qs) (by rw[List.length_map,List.length_map];exact h1) (r1.below hW nr_) (r2.below hW nr_)) (by simp)
   (by intro l hl;simp only[List.mem_cons,List.not_mem_nil,or_false] at hl;rcases hl with rfl | rfl;exact⟨l1,s1⟩;exact⟨l2,s2⟩) (rd_obj h2) rfl
   (by intro q hq;simp only[List.mem_cons,List.not_mem_nil,or_false] at hq;rcases hq with rfl | rfl;subst hu;exact Sm.le (D:=1) ⟨by decide +kernel,by decide +kernel⟩ (by decide);subst hv;exact Sm.le (D:=2) ⟨by decide +kernel,by decide +kernel⟩ (by decide)) (L.below hW)).code
 have N1:Hid (∀ W,Below w.heap.size w W→Gives Tryz.prog 98 #[.int .i64 1] W (fr u)):=fun W hW=>by subst hu;exact numberR W 1 (by decide) (by decide) (L.below hW)
 have N2:Hid (∀ W,Below w.heap.size w W→Gives Tryz.prog 98 #[.int .i64 1] W (fr v)):=fun W hW=>by subst hv;exact numberR W 1 (by decide) (by decide) (L.below hW)
 unfold fr fv at N1 N2
 unfold GivesC at Hc ⊢
 clear hu hv rp hi hp r1 r2 l1 l2 s1 s2 L
 generalize sumQ ps.length [la,lb] [u,v]=S at *
 generalize sumCode S=code at *
 generalize (if code=0 then S.length else 0)=z at *
 generalize ps.length=n at *
 generalize la.length=na at *
 generalize lb.length=nb at *
 have B0:=hd_ ((Below.refl w.heap.size w).alloc nr_ (.cells #[.slice a1 na c1,.slice a2 nb c2] 38))
 have K0:=hd_ (heap_at w #[.slice a1 na c1,.slice a2 nb c2] 38 _ rfl)
 go_enter Tryz.func56,Tryz.ntmps56
 go_wp2_with fail
 generalize w.alloc (.cells #[.slice a1 na c1,.slice a2 nb c2] 38)=w0 at *
 refine cm_ (N1.out _ B0.out) ?_
 rintro e w1 ⟨rfl,hb⟩
 have B1:=hd_ (B0.out.trans (hb.mono B0.out.size))
 have K1:=hd_ (heap_kept K0.out hb nr_)
 clear hb B0 K0
 go_wp2_with fail
 refine cm_ (N2.out _ B1.out) ?_
 rintro e w2 ⟨rfl,hb⟩
 have B2:=hd_ (B1.out.trans (hb.mono B1.out.size))
 have K2:=hd_ (heap_kept K1.out hb nr_)
 clear hb B1 K1 N1 N2
 go_wp2_with fail
 have B3:=hd_ (B2.out.alloc B2.out.size (.cells #[.string (itx u.num),.string (dec u.den),.string (itx v.num),.string (dec v.den)] 42))
 have K3:=hd_ (heap_old K2.out (.cells #[.string (itx u.num),.string (dec u.den),.string (itx v.num),.string (dec v.den)] 42))
 have M3:=hd_ (heap_at w2 #[.string (itx u.num),.string (dec u.den),.string (itx v.num),.string (dec v.den)] 42 _ rfl)
 generalize w2.alloc (.cells #[.string (itx u.num),.string (dec u.den),.string (itx v.num),.string (dec v.den)] 42)=w3 at *
 refine cm_ (Hc.out _ _ _ B3.out K3.out M3.out) ?_
 rintro e w4 ⟨a,c,rfl,hr,hb⟩
 have Hr:=hd_ hr
 have B4:=hd_ (B3.out.trans (hb.mono B3.out.size))
 clear hr hb Hc B2 K2 B3 K3 M3
 go_wp2_with fail
 go_ret2
 exact⟨a,c,rfl,Hr.out,B4.out⟩
end Go.Proofs.YtnjedhgcfeoemaaGreatDoor

namespace Go.Proofs.YtnjedhgcfeoemaaGreatDoor
open Go.RowKit Go.Proofs.YtnjedhgcfeoemaaGreatDoor.RP
def combineQ (la lb:List Rat) (k m:Rat):List Rat:=List.zipWith (fun x y=>x*k+y*m) la lb
theorem combineQ_length(la lb:List Rat)(k m:Rat)(h:la.length=lb.length):(combineQ la lb k m).length=la.length:=by simp[combineQ,h]
end Go.Proofs.YtnjedhgcfeoemaaGreatDoor

namespace Go.Proofs.YtnjedhgcfeoemaaGreatDoor
open Go.RowKit
theorem sumQ_two(n:Nat)(la lb:List Rat)(f g:Rat)(h1:la.length=n)(h2:lb.length=n):sumQ n [la,lb] [f,g]=combineQ la lb f g:=by
 show addTo (addTo (List.replicate n 0) la f) lb g=_
 refine List.ext_getElem (by simp[addTo,combineQ,h1,h2]) fun i hi1 hi2=>?_
 simp only[addTo,combineQ,List.getElem_zipWith,List.getElem_replicate,Rat.zero_add]
theorem fracQ_sm(n:Int)(d:Nat):Sm 2 (fracQ n d):=by
 have t1:=Int.tmod_lt_of_pos n (show (0:Int)<41 by decide)
 have t2:=Int.lt_tmod_of_pos n (show (0:Int)<41 by decide)
 have hd:=densL_ok (d%6)
 exact Sm.mk' (by omega) (by show _<100;omega) (by show _<100;omega)
theorem partsQ_sm(nu:Nat→Int)(de:Nat→Nat)(m:Nat):∀ q∈partsQ nu de m,Sm 2 q:=by
 intro q hq
 obtain⟨i,_,rfl⟩:=List.mem_map.1 hq
 exact fracQ_sm _ _
theorem combineQ_sm{la lb:List Rat}{f g:Rat}{D E F G:Nat}(h1:∀ q∈la,Sm D q)(h2:∀ q∈lb,Sm E q)(hf:Sm F f)(hg:Sm G g):∀ q∈combineQ la lb f g,Sm ((D+F)+(E+G)+1) q:=by
 intro q hq
 obtain⟨i,hi,rfl⟩:=List.mem_iff_getElem.1 hq
 simp only[combineQ,List.getElem_zipWith]
 have hi':i<la.length∧i<lb.length:=by simp[combineQ] at hi;omega
 exact Sm.add (Sm.mul (h1 _ (List.getElem_mem hi'.1)) hf) (Sm.mul (h2 _ (List.getElem_mem hi'.2)) hg)
theorem shortAll_sm{l:List Rat}{D:Nat}(h:∀ q∈l,Sm D q)(hD:D≤30):shortAll l=true:=by
 unfold shortAll
 rw[List.all_eq_true]
 intro q hq
 exact decide_eq_true ((h q hq).le hD)
theorem sm_one:Sm 1 (1:Rat):=⟨by decide +kernel,by decide +kernel⟩
theorem sumCode_small(la lb:List Rat)(g:Rat)(h1:∀ q∈la,Sm 2 q)(h2:∀ q∈lb,Sm 2 q)(hg:Sm 1 g):sumCode (combineQ la lb 1 g)=0:=by
 unfold sumCode
 rw[if_pos (shortAll_sm (combineQ_sm h1 h2 sm_one hg) (by decide))]
end Go.Proofs.YtnjedhgcfeoemaaGreatDoor

namespace Go.Proofs.YtnjedhgcfeoemaaGreatDoor
open Go.RowKit Go.Proofs.YtnjedhgcfeoemaaGreatDoor.RP
structure AddFacts (w:World) (ps:List Int) (la lb:List Rat) (s t:ByteArray):Prop where
 hi:I64s ps
 hp:pcode ps=0
 l1:la.length=ps.length
 l2:lb.length=ps.length
 s1:∀ q∈la,Sm 2 q
 s2:∀ q∈lb,Sm 2 q
 hs:s.size≤45
 ht:t.size≤45
 L:Laid w
theorem AddFacts.add{w W:World}{ps:List Int}{la lb:List Rat}{s t:ByteArray}(H:AddFacts w ps la lb s t)(hW:Below w.heap.size w W){a0 a1 a2:Option Addr}(c0 c1 c2:Nat)(rp:Rd W a0 (ints ps))(r1:Rd W a1 (cellsQ la))(r2:Rd W a2 (cellsQ lb)):
  Calls Tryz.prog 56 #[.slice a0 ps.length c0,.slice a1 ps.length c1,.slice a2 ps.length c2] W fun e w'=>∃ a c,e = .returned (.tuple #[.slice a ps.length c,.int .i64 0])∧Rd w' a (cellsQ (combineQ la lb 1 1))∧Below W.heap.size W w':=by
 have h:=add_gen W ps a0 a1 a2 c0 c1 c2 la lb rp H.hi H.hp r1 r2 H.l1 H.l2 (fun q hq=>(H.s1 q hq).le (by decide)) (fun q hq=>(H.s2 q hq).le (by decide)) (H.L.below hW)
 rw[show (((1:Int):Rat))=1 from rfl,sumQ_two _ _ _ _ _ H.l1 H.l2,sumCode_small la lb 1 H.s1 H.s2 sm_one,H.l1,H.l2] at h
 unfold GivesC at h
 rw[if_pos rfl,combineQ_length _ _ _ _ (H.l1.trans H.l2.symm),H.l1] at h
 refine cm_ h ?_
 rintro e w' ⟨a,c,rfl,hr,hb⟩
 exact⟨a,c,rfl,hr rfl,hb⟩
end Go.Proofs.YtnjedhgcfeoemaaGreatDoor

namespace Go.Proofs.YtnjedhgcfeoemaaGreatDoor
open Go.ChangeShapes Go.WideShapes Go.ChangeAt Go.RowKit Go.Joins
theorem cellsPart:Tryz.prog.cellsOf 59=2:=by kernel_rfl
theorem cellsParts:Tryz.prog.cellsOf 61=8:=by kernel_rfl
theorem cellsI8:Tryz.prog.cellsOf 57=1:=by kernel_rfl
theorem cellsU8:Tryz.prog.cellsOf 5=1:=by kernel_rfl
section
variable {H:Type} {enc:TypeId×Value→H} {W:World}
theorem open_part{base fuel:Nat}{sp:Nat→Bool}{held:Bool}{cs:List Value}{x:DataW H×List MemPlace}(h:DataW.trod enc Tryz.prog W base sp held fuel 59 cs=some x):
  ∃ (n:Int) (d:Nat),cs=[.int .i8 n,.int .u8 d]∧(-128≤n∧n≤127)∧d<256:=by
 obtain⟨y0,y1,n,hx,hl,h0,h1⟩:=trod_struct2 Tryz.underlying59 h
 rw[cellsPart] at hl
 match cs,hl with
 | [c0,c1],_ =>
  simp only[List.drop_zero,List.drop_succ_cons,cellsI8,cellsU8,List.take_succ_cons,List.take_zero] at h0 h1
  obtain⟨a,ha,_,wa⟩:=DataW.trod_int Tryz.underlying57 h0
  obtain⟨b,hb,_,wb⟩:=DataW.trod_int Tryz.underlying5 h1
  have b1:=bounds_i8 wa
  have b2:=bounds_u8 wb
  simp only[List.cons.injEq,and_true] at ha hb
  refine⟨a,b.toNat,?_,b1,by omega⟩
  rw[ha,hb,show ((b.toNat:Nat):Int)=b by omega]
def four {α:Type} (a b c d z : α):Nat → α
 | 0=>a | 1=>b | 2=>c | 3=>d | _=>z
theorem open_parts{base fuel:Nat}{sp:Nat→Bool}{held:Bool}{cs:List Value}{x:DataW H×List MemPlace}(h:DataW.trod enc Tryz.prog W base sp held fuel 61 cs=some x):
  ∃ (nu:Nat→Int) (de:Nat→Nat),cs=(partsV nu de).toList∧(∀ k,-128≤nu k∧nu k≤127)∧(∀ k,de k<256):=by
 obtain⟨xs,m,_,_,hl,hn,hel⟩:=DataW.trod_array Tryz.underlying61 h
 rw[cellsParts] at hl
 match cs,hl,xs,hn with
 | [c0,c1,c2,c3,c4,c5,c6,c7],_,[x0,x1,x2,x3],_ =>
  have e0:=hel 0 (by decide)
  have e1:=hel 1 (by decide)
  have e2:=hel 2 (by decide)
  have e3:=hel 3 (by decide)
  simp only[cellsPart,Nat.zero_mul,Nat.one_mul,Nat.reduceMul,List.drop_zero,List.drop_succ_cons,List.take_succ_cons,List.take_zero] at e0 e1 e2 e3
  obtain⟨n0,d0,q0,b0,b0'⟩:=open_part e0
  obtain⟨n1,d1,q1,b1,b1'⟩:=open_part e1
  obtain⟨n2,d2,q2,b2,b2'⟩:=open_part e2
  obtain⟨n3,d3,q3,b3,b3'⟩:=open_part e3
  simp only[List.cons.injEq,and_true] at q0 q1 q2 q3
  refine⟨four n0 n1 n2 n3 0,four d0 d1 d2 d3 0,?_,?_,?_⟩
  ·rw[q0.1,q0.2,q1.1,q1.2,q2.1,q2.2,q3.1,q3.2];rfl
  ·intro k
   match k with
   | 0=>exact b0
   | 1=>exact b1
   | 2=>exact b2
   | 3=>exact b3
   | k+4=>exact⟨by show -128≤(0:Int);decide,by show (0:Int)≤127;decide⟩
  ·intro k
   match k with
   | 0=>exact b0'
   | 1=>exact b1'
   | 2=>exact b2'
   | 3=>exact b3'
   | k+4=>show 0<256;decide
end
end Go.Proofs.YtnjedhgcfeoemaaGreatDoor

namespace Go.Proofs.YtnjedhgcfeoemaaGreatDoor
open Go.ChangeShapes Go.WideShapes Go.ChangeAt Go.RowKit Go.Joins
section
variable {H:Type} {enc:TypeId×Value→H} {W:World}
theorem okWide_array{P:Program}{w:World}{r:Reach}{base n:Nat}{t u:TypeId}{v:Value}(ht:P.underlying t=some (.array n u))(h:Value.okWide P w r base t v):∃ cs,v = .agg cs∧cs.size=P.cellsOf t:=by
 simp only[Value.okWide,ht] at h
 obtain⟨cs,h1,h2,_⟩:=h
 exact⟨cs,h1,h2⟩
theorem open_partsV{r:Reach}{b0:Nat}{v:Value}{d:DataW H}{p:List MemPlace}(hv:Value.okWide Tryz.prog W r b0 61 v)(h:DataW.Trod enc Tryz.prog W 0 (fun _=>true) true 61 v d p):
  ∃ (nu:Nat→Int) (de:Nat→Nat),v = .agg (partsV nu de)∧(∀ k,-128≤nu k∧nu k≤127)∧(∀ k,de k<256):=by
 obtain⟨cs,rfl,hsz⟩:=okWide_array Tryz.underlying61 hv
 obtain⟨fuel,hf⟩:=h
 obtain⟨nu,de,e,h1,h2⟩:=open_parts hf
 obtain⟨l⟩:=cs
 have e':l=(partsV nu de).toList:=e
 exact⟨nu,de,by rw[e'],h1,h2⟩
end
end Go.Proofs.YtnjedhgcfeoemaaGreatDoor

namespace Go.Proofs.YtnjedhgcfeoemaaGreatDoor
open Go.ChangeShapes Go.WideShapes Go.ChangeAt Go.RowKit
end Go.Proofs.YtnjedhgcfeoemaaGreatDoor

namespace Go.Proofs.YtnjedhgcfeoemaaGreatDoor
open Go.RowKit
end Go.Proofs.YtnjedhgcfeoemaaGreatDoor

namespace Go.Proofs.YtnjedhgcfeoemaaGreatDoor
open Go.RowKit
end Go.Proofs.YtnjedhgcfeoemaaGreatDoor

namespace Go.Proofs.YtnjedhgcfeoemaaGreatDoor
open Go.RowKit
end Go.Proofs.YtnjedhgcfeoemaaGreatDoor

namespace Go.Proofs.YtnjedhgcfeoemaaGreatDoor
open Go.RowKit
end Go.Proofs.YtnjedhgcfeoemaaGreatDoor

namespace Go.Proofs.YtnjedhgcfeoemaaGreatDoor
open Go.RowKit
end Go.Proofs.YtnjedhgcfeoemaaGreatDoor

namespace Go.Proofs.YtnjedhgcfeoemaaGreatDoor
open Go.RowKit
end Go.Proofs.YtnjedhgcfeoemaaGreatDoor

namespace Go.Proofs.YtnjedhgcfeoemaaGreatDoor
open Go.RowKit
theorem elInt:ElemOf Tryz.prog 35 3 (.int .i64 0) 1 8:=⟨Tryz.underlying35,info_parts (by kernel_rfl),rfl,by decide⟩
def Small (m:Int) (l:List Int):Prop:=∀ x∈l,0≤x∧x≤m
def OwnInts (w:World) (B:Nat) (a:Option Addr) (n c:Nat) (l:List Int):Prop:=w.ownsRow B 3 1 (.slice a n c) n (ints l)
theorem OwnInts.len{w:World}{B n c:Nat}{a:Option Addr}{l:List Int}(h:OwnInts w B a n c l):l.length=n:=by
 have:=h.1;simp[ints_length] at this;exact this
theorem OwnInts.nil(w:World)(B:Nat):OwnInts w B none 0 0 []:=World.ownsRow_nil ..
theorem OwnInts.open{w:World}{B n c:Nat}{a:Option Addr}{l:List Int}(h:OwnInts w B a n c l)(hn:0<n):
  ∃ g,a=some ⟨g,0,none⟩∧B≤g∧g<w.heap.size∧n≤c∧(∀ j (hj:j<l.length),w.cell? ⟨g,j,none⟩=some (.int .i64 l[j]))∧(∀ j,w.frozen? ⟨g,j,none⟩=false):=by
 have hl:=h.len
 obtain⟨g,cap,hv,h1,h2,h3,h4,h5⟩:=own_open h hn
 simp only[Value.slice.injEq] at hv
 obtain⟨rfl,-,rfl⟩:=hv
 exact⟨g,rfl,h1,h2,h3,fun j hj=>by rw[h4 j (by omega),ints_get l j hj],h5⟩
theorem OwnInts.store{w:World}{B n c g:Nat}{l:List Int}(h:OwnInts w B (some ⟨g,0,none⟩) n c l)(j:Nat)(x:Int):
  OwnInts (w.setCell ⟨g,j,none⟩ (.int .i64 x)) B (some ⟨g,0,none⟩) n c (l.set j x):=by
 have:=(World.ownsRow.stored h j (.int .i64 x)).1
 rw[ints_set] at this
 exact this
def arr (l:List Int):Array Value:=(ints l).toArray
theorem arr_get(l:List Int)(j:Nat)(h:j<l.length):(arr l)[j]?=some (.int .i64 l[j]):=by simp[arr,ints,h]
theorem arr_set(l:List Int)(j:Nat)(x:Int):(arr l).setIfInBounds j (.int .i64 x)=arr (l.set j x):=by
 simp[arr,ints,List.map_set]
def RowAt (w:World) (g:Nat) (T:TypeId) (l:List Int):Prop:=w.heap[g]?=some (.cells (arr l) T (0,0))
theorem RowAt.cell{w:World}{g:Nat}{T:TypeId}{l:List Int}(h:RowAt w g T l)(j:Nat)(hj:j<l.length):w.cell? ⟨g,j,none⟩=some (.int .i64 l[j]):=by
 rw[cell_of_row w g j _ T (0,0) h,arr_get l j hj]
theorem RowAt.frozen{w:World}{g:Nat}{T:TypeId}{l:List Int}(h:RowAt w g T l)(j:Nat):w.frozen? ⟨g,j,none⟩=false:=frozen_of_row w g j _ T h
theorem RowAt.store{w:World}{g:Nat}{T:TypeId}{l:List Int}(h:RowAt w g T l)(j:Nat)(x:Int):RowAt (w.setCell ⟨g,j,none⟩ (.int .i64 x)) g T (l.set j x):=by
 unfold RowAt
 rw[heap_setCell_same w g j _ T _ h,arr_set]
def Wit (w wr:World):Prop:=wr.heap[w.heap.size]?=some (.cells #[.int .i64 0,.int .i64 0,.int .i64 0,.string ⟨#[]⟩] 152 (0,0))∧Below w.heap.size w wr∧w.heap.size+1≤wr.heap.size
theorem Wit.step{w wr wr':World}(h:Wit w wr)(hb:Below wr.heap.size wr wr'):Wit w wr' :=
 ⟨by rw[hb.block _ (by have:=h.2.2;omega)];exact h.1,h.2.1.trans (hb.mono (by have:=h.2.2;omega)),Nat.le_trans h.2.2 hb.size⟩
def lt4 (few x:UInt8):Nat:=x.toNat%(1+few.toNat%4)
def mkTo (l:List UInt8) (few:UInt8) (k:Nat):List UInt8:=(l.take k).map fun x=>(97+lt4 few x).toUInt8
def mk (l:List UInt8) (few:UInt8):List UInt8:=if l=[] then [97] else mkTo l few 14
end Go.Proofs.YtnjedhgcfeoemaaGreatDoor

namespace Go.Proofs.YtnjedhgcfeoemaaGreatDoor
open Go.ChangeShapes Go.WideShapes Go.ChangeAt Go.RowKit Go.Joins
end Go.Proofs.YtnjedhgcfeoemaaGreatDoor

namespace Go.Proofs.YtnjedhgcfeoemaaGreatDoor
open Go.RowKit
theorem bits_two(w:World)(L:Laid w):Gives Tryz.prog 127 #[.string (dec 2)] w (.int .i64 2):=by
 unfold Gives
 have h:=smallS_any w 2 (by rw[show (dec 2).size=1 by decide +kernel];decide) L
 rw[if_pos (by decide)] at h
 have H:=hd_ h
 have Hl:Hid (∀ W:World,Calls Tryz.prog 191 #[.int .u64 2] W fun e w'=>e = .returned (.int .i64 2)∧w'=W):=fun W=>by
  have:=Tryz.bits_Len64 2 W (by decide) (by decide)
  rw[show ((Lib.bitLen ((2:Int).toNat):Nat):Int)=2 by decide +kernel] at this
  exact this
 clear L h
 generalize dec 2=s at *
 go_enter Tryz.func127,Tryz.ntmps127
 go_wp2_with fail
 refine cm_ H.out ?_
 rintro e w1 ⟨rfl,hb1⟩
 have B1:=hd_ hb1
 clear hb1 H
 go_wp2_with fail
 refine cm_ (Hl.out _) ?_
 rintro e w2 ⟨rfl,rfl⟩
 clear Hl
 go_wp2_with fail
 go_ret
 exact⟨rfl,B1.out⟩
theorem readsU_one{w:World}{g:Nat}{t:TypeId}(h:w.heap[g]?=some (.cells #[.int .u64 1] t (0,0))):ReadsU w (some ⟨g,0,none⟩) (limbs 1):=by
 have e:limbs 1=[1]:=by decide +kernel
 rw[e]
 refine .inr ⟨g,0,rfl,(Array.getElem?_eq_some_iff.1 h).1,fun i hi=>?_⟩
 have:i=0:=by simp at hi;exact hi
 subst this
 rw[cell_of_row w g 0 _ t (0,0) h];rfl
theorem size_pow(D y:Nat)(h:y<D):(dec (2^y)).size≤D:=by
 rw[size_lt _ _ (by omega)]
 exact Nat.lt_of_le_of_lt (Nat.pow_le_pow_left (by decide) y) (Nat.pow_lt_pow_right (by decide) h)
theorem limbs_two(n y:Nat)(hn:n≤4000)(hy:y≤n):(limbs (2^y)).length≤10000 :=
 limbs_of_dec _ 10000 (by decide) (size_pow 10000 y (by omega))
theorem size_two(n:Nat)(hn:n≤4000):(dec (2^n)).size≤4001:=size_pow 4001 n (by omega)
theorem i64_and1(n:Int):bits .and .i64 n 1=n%2:=by
 have h1:(BitVec.ofInt 64 1).toNat=2^1-1:=by decide
 have key:(BitVec.ofInt 64 n &&& BitVec.ofInt 64 1).toNat=(n%((2^64:Nat):Int)).toNat%2^1:=by
  rw[BitVec.toNat_and,BitVec.toNat_ofInt,h1,Nat.and_two_pow_sub_one_eq_mod]
 show IntKind.i64.wrap ((BitVec.ofInt 64 n &&& BitVec.ofInt 64 1).toNat:Nat)=n%2
 rw[key,IntKind.wrap_i64]
 omega
theorem and_one(k:Nat)(_:k<4001):(bits BinOp.and IntKind.i64 (k:Nat) 1==1)=decide (k%2=1):=by
 rw[i64_and1]
 by_cases h:k%2=1
 ·rw[decide_eq_true h,beq_iff_eq];omega
 ·rw[decide_eq_false h,beq_eq_false_iff_ne];omega
theorem times_two(W:World)(n x y:Nat)(hn:n≤4000)(hx:x≤n)(hy:y≤n)(a1 a2:Option Addr)(c1 c2:Nat)(h1:ReadsU W a1 (limbs (2^x)))(h2:ReadsU W a2 (limbs (2^y))):
  Calls Tryz.prog 141 #[.slice a1 (limbs (2^x)).length c1,.slice a2 (limbs (2^y)).length c2] W fun e w'=>∃ a c,e = .returned (.slice a (limbs (2^(x+y))).length c)∧ReadsU w' a (limbs (2^(x+y)))∧Below W.heap.size W w':=by
 have l1:=limbs_two n x hn hx
 have l2:=limbs_two n y hn hy
 refine cm_ (times_any W a1 a2 c1 c2 _ _ h1 h2 (limbs_pcs _) (limbs_pcs _) (by omega) (by omega)) ?_
 rintro e w' ⟨a,c,rfl,ho,hb⟩
 rw[val_limbs,val_limbs,← Nat.pow_add] at *
 exact⟨a,c,rfl,ho.reads,hb⟩
theorem power2_any(w:World)(n:Nat)(hn:n≤4000)(L:Laid w):Gives Tryz.prog 69 #[.string (dec 2),.int .i64 n] w (.tuple #[.string (dec (2^n)),.int .i64 0]):=by
 unfold Gives
 have hz:=is_zero 2
 have ho:=is_one 2
 rw[decide_eq_false (by decide)] at hz ho
 have Hb:Hid (∀ W,Below w.heap.size w W→Gives Tryz.prog 127 #[.string (dec 2)] W (.int .i64 2)):=fun W hW=>bits_two W (L.below hW)
 have Hc:Hid (∀ W,GivesU 140 #[.string (dec 2)] W 2):=fun W=>cutD W 2 (by unfold Num;rw[show (dec 2).size=1 by decide +kernel];decide)
 have Hs:=hd_ (size_two n hn)
 clear L
 by_cases h0:n=0
 ·subst h0
  have Hv:Hid (dec (2^0)=⟨#[49]⟩):=by show _=_;rw[Nat.pow_zero,dec_one]
  generalize dec (2^0)=vv at *
  clear Hb Hc hn
  generalize dec 2=s at *
  go_enter Tryz.func69,Tryz.ntmps69
  go_wp2_with fail
  go_ret2
  exact⟨by rw[Hv.out];rfl,Below.refl _ _⟩
 ·have hn0:((n:Int)==0)=false:=by rw[beq_eq_false_iff_ne];omega
  have hnn:¬ (n:Int)<0:=by omega
  have hnl:¬ (66439:Int)<n:=by omega
  unfold GivesU at Hc
  obtain⟨vv,hvv⟩:∃ s,dec (2^n)=s:=⟨_,rfl⟩
  have Hvv:=hd_ hvv
  rw[hvv] at Hs ⊢
  clear hvv
  generalize dec 2=s at *
  go_enter Tryz.func69,Tryz.ntmps69
  go_wp2_with fail
  refine cm_ (Hb.out _ (Below.refl _ _)) ?_
  rintro e w1 ⟨rfl,hb1⟩
  have B1:=hd_ hb1
  clear hb1 Hb
  go_wp2_with fail
  have B2:=hd_ (B1.out.alloc B1.out.size (.cells #[.int .u64 1] 193))
  have R1:Hid (ReadsU (w1.alloc (.cells #[.int .u64 1] 193)) (some ⟨w1.heap.size,0,none⟩) (limbs 1)):=readsU_one (Go.heap_alloc_new w1 _)
  generalize w1.alloc (.cells #[.int .u64 1] 193)=w2 at *
  clear B1
  refine cm_ (Hc.out _) ?_
  rintro e w3 ⟨a3,c3,rfl,ho,hb⟩
  have B3:=hd_ (B2.out.trans (hb.mono B2.out.size))
  have R2:=hd_ ho.reads
  replace R1:=hd_ (R1.out.below hb nr_)
  clear hb ho Hc B2
  have Hl1:Hid ((limbs 1).length=1):=hd_ (by decide +kernel)
  go_wp2_with fail
  go_loopw [1,7,8] (fun m o q wr=>∃ (k x y:Nat) (a1 a2:Option Addr) (c1 c2:Nat),m = .int .i64 k∧k≤n∧o = .slice a1 (limbs (2^x)).length c1∧q = .slice a2 (limbs (2^y)).length c2∧Hid (x+y*k=n)∧Hid (y≤n)∧Hid (ReadsU wr a1 (limbs (2^x)))∧Hid (ReadsU wr a2 (limbs (2^y)))∧Hid (Below w.heap.size w wr)) (fun m _ _ _=>(intOf m).toNat)
  case atStart =>
   refine⟨n,0,1,some ⟨w1.heap.size,0,none⟩,a3,1,c3,rfl,Nat.le_refl _,by rw[Nat.pow_zero,Hl1.out],rfl,?_,?_,R1,R2,B3⟩
   ·show _=_;omega
   ·show _≤_;omega
  case round =>
   clear R1 R2 B3
   obtain⟨k,x,y,a1,a2,c1,c2,rfl,hk,rfl,rfl,Hxy,Hy,R1,R2,B⟩:=hrel
   have Hx:Hid (x≤n):=by show _≤_;have:=Hxy.out;omega
   by_cases hk0:k=0
   ·subst hk0
    have hk1:¬ (0:Int)<((0:Nat):Int):=by omega
    have Hx2:Hid (x=n):=by show _=_;have:=Hxy.out;omega
    rw[Hx2.out] at R1 ⊢
    have Hte:Hid (Gives Tryz.prog 142 #[.slice a1 (limbs (2^n)).length c1] wr (.string vv)):=by
     have:=text_any wr a1 c1 (2^n) R1.out (by have:=limbs_two n n hn nr_;omega)
     rw[Hvv.out] at this
     exact this
    have hsz:¬ (20000:Int)<vv.size:=by have:=Hs.out;omega
    go_wp2_with fail
    refine cm_ Hte.out ?_
    rintro e w9 ⟨rfl,hb⟩
    have B9:=hd_ (B.out.trans (hb.mono B.out.size))
    clear hb Hte
    go_wp2_with fail
    go_ret2
    exact⟨rfl,B9.out⟩
   ·have hk1:(0:Int)<k:=by omega
    have hb:=and_one k (by omega)
    by_cases hodd:k%2=1
    ·rw[decide_eq_true hodd] at hb
     have Ht:Hid (Calls Tryz.prog 141 #[.slice a1 (limbs (2^x)).length c1,.slice a2 (limbs (2^y)).length c2] wr fun e w'=>∃ a c,e = .returned (.slice a (limbs (2^(x+y))).length c)∧ReadsU w' a (limbs (2^(x+y)))∧Below wr.heap.size wr w'):=times_two wr n x y hn Hx.out Hy.out a1 a2 c1 c2 R1.out R2.out
     go_wp2_with fail
     refine cm_ Ht.out ?_
     rintro e w5 ⟨a5,c5,rfl,r5,hb5⟩
     have B5:=hd_ (B.out.trans (hb5.mono B.out.size))
     replace R1:=hd_ r5
     replace R2:=hd_ (R2.out.below hb5 nr_)
     clear hb5 r5 B Ht
     by_cases hk2:1<k
     ·have hk2':(1:Int)<k:=by omega
      have Hxy2:Hid (x+y+(y+y)*(k/2)=n):=by
       show _=_
       have h1:=Hxy.out
       obtain⟨h,rfl⟩:∃ h,k=2*h+1:=⟨k/2,by omega⟩
       rw[show (2*h+1)/2=h by omega,Nat.add_mul]
       rw[Nat.mul_add,Nat.mul_left_comm] at h1
       omega
      have Ht:Hid (Calls Tryz.prog 141 #[.slice a2 (limbs (2^y)).length c2,.slice a2 (limbs (2^y)).length c2] w5 fun e w'=>∃ a c,e = .returned (.slice a (limbs (2^(y+y))).length c)∧ReadsU w' a (limbs (2^(y+y)))∧Below w5.heap.size w5 w'):=times_two w5 n y y hn Hy.out Hy.out a2 a2 c2 c2 R2.out R2.out
      go_wp2_with fail
      refine cm_ Ht.out ?_
      rintro e w6 ⟨a6,c6,rfl,r6,hb6⟩
      have B6:=hd_ (B5.out.trans (hb6.mono B5.out.size))
      replace R2:=hd_ r6
      replace R1:=hd_ (R1.out.below hb6 nr_)
      clear hb6 r6 B5 Ht
      go_wp2_with fail
      go_roundw
      case rel =>
       refine⟨k/2,x+y,y+y,_,_,_,_,by go_num,by omega,rfl,rfl,Hxy2,?_,R1,R2,B6⟩
       show _≤_
       have:=Hxy.out
       have h2:y*2≤y*k:=Nat.mul_le_mul_left _ (by omega)
       omega
      case measure=>simp[intOf];omega
     ·have hk2':¬ (1:Int)<k:=by omega
      go_wp2_with fail
      go_roundw
      case rel =>
       refine⟨k/2,x+y,y,_,_,_,_,by go_num,by omega,rfl,rfl,?_,Hy,R1,R2,B5⟩
       show _=_
       have:=Hxy.out
       have e1:k=1:=by omega
       subst e1
       have e2:(1/2:Nat)=0:=rfl
       rw[e2]
       omega
      case measure=>simp[intOf];omega
    ·rw[decide_eq_false hodd] at hb
     by_cases hk2:1<k
     ·have hk2':(1:Int)<k:=by omega
      have Hxy2:Hid (x+(y+y)*(k/2)=n):=by
       show _=_
       have h1:=Hxy.out
       obtain⟨h,rfl⟩:∃ h,k=2*h:=⟨k/2,by omega⟩
       rw[show (2*h)/2=h by omega,Nat.add_mul]
       rw[Nat.mul_left_comm] at h1
       omega
      have Ht:Hid (Calls Tryz.prog 141 #[.slice a2 (limbs (2^y)).length c2,.slice a2 (limbs (2^y)).length c2] wr fun e w'=>∃ a c,e = .returned (.slice a (limbs (2^(y+y))).length c)∧ReadsU w' a (limbs (2^(y+y)))∧Below wr.heap.size wr w'):=times_two wr n y y hn Hy.out Hy.out a2 a2 c2 c2 R2.out R2.out
      go_wp2_with fail
      refine cm_ Ht.out ?_
      rintro e w6 ⟨a6,c6,rfl,r6,hb6⟩
      have B6:=hd_ (B.out.trans (hb6.mono B.out.size))
      replace R2:=hd_ r6
      replace R1:=hd_ (R1.out.below hb6 nr_)
      clear hb6 r6 B Ht
      go_wp2_with fail
      go_roundw
      case rel =>
       refine⟨k/2,x,y+y,_,_,_,_,by go_num,by omega,rfl,rfl,Hxy2,?_,R1,R2,B6⟩
       show _≤_
       have:=Hxy.out
       have h2:y*2≤y*k:=Nat.mul_le_mul_left _ (by omega)
       omega
      case measure=>simp[intOf];omega
     ·omega
theorem p2:True:=trivial
def vS:List Nat→Nat
 | []=>0
 | x::l=>x+4294967296*vS l
theorem vS_append:∀ (a b:List Nat),vS (a++b)=vS a+4294967296^a.length*vS b
 | [],b=>by simp[vS]
 | x::a,b=>by
  simp only[List.cons_append,vS,List.length_cons,vS_append a b,Nat.pow_succ]
  rw[Nat.mul_add,← Nat.mul_assoc,Nat.mul_comm (4294967296^a.length)]
  omega
theorem vS_snoc(a:List Nat)(x:Nat):vS (a++[x])=vS a+4294967296^a.length*x:=by
 rw[vS_append];simp[vS]
def Wd32 (l:List Nat):Prop:=∀ x∈l,x<4294967296
theorem Wd32.getD{l:List Nat}(h:Wd32 l)(i:Nat):l.getD i 0<4294967296:=by
 rw[List.getD_eq_getElem?_getD]
 cases hk:l[i]? with
 | none=>simp
 | some x=>exact h x (List.mem_of_getElem? hk)
theorem Wd32.set{l:List Nat}(h:Wd32 l)(i x:Nat)(hx:x<4294967296):Wd32 (l.set i x):=fun y hy=>by
 rcases List.mem_or_eq_of_mem_set hy with hy|hy
 ·exact h y hy
 ·rw[hy];exact hx
theorem Wd32.take{l:List Nat}(h:Wd32 l)(k:Nat):Wd32 (l.take k):=fun x hx=>h x (List.mem_of_mem_take hx)
theorem Wd32.snoc{l:List Nat}(h:Wd32 l){x:Nat}(hx:x<4294967296):Wd32 (l++[x]):=fun y hy=>by
 rcases List.mem_append.1 hy with h1|h1
 ·exact h y h1
 ·rw[List.mem_singleton.1 h1];exact hx
theorem vS_lt:∀ {l:List Nat},Wd32 l→vS l<4294967296^l.length
 | [],_=>by simp[vS]
 | x::l,h=>by
  have h1:=h x List.mem_cons_self
  have h2:=vS_lt (l:=l) fun y hy=>h y (List.mem_cons_of_mem _ hy)
  rw[List.length_cons,Nat.pow_succ,vS]
  omega
theorem vS_take_succ(l:List Nat)(k:Nat)(h:k<l.length):vS (l.take (k+1))=vS (l.take k)+4294967296^k*l.getD k 0:=by
 have e:l.getD k 0=l[k]:=by rw[List.getD_eq_getElem?_getD,List.getElem?_eq_getElem h];rfl
 rw[List.take_succ_eq_append_getElem h,vS_snoc,List.length_take,Nat.min_eq_left (Nat.le_of_lt h),e]
theorem bits_step(L M:List Nat)(k cc x r q e:Nat)(hk:k<M.length)(hl:k<L.length)(he:L.getD k 0=e)
  (h:vS (M.take k)+4294967296^k*cc=1000000000*vS (L.take k)+x) (hdm:r+4294967296*q=cc+e*1000000000) :
  vS ((M.set k r).take (k+1))+4294967296^(k+1)*q=1000000000*vS (L.take (k+1))+x:=by
 have e1:(M.set k r).take k=M.take k:=List.take_set_of_le (Nat.le_refl k)
 have e2:(M.set k r).getD k 0=r:=by
  rw[List.getD_eq_getElem?_getD,List.getElem?_set_self hk];rfl
 have e3:=vS_take_succ (M.set k r) k (by rw[List.length_set];exact hk)
 have e4:=vS_take_succ L k hl
 rw[e1,e2] at e3
 rw[he] at e4
 have e5:4294967296^(k+1)*q=4294967296^k*(4294967296*q):=by rw[Nat.pow_succ,Nat.mul_assoc]
 rw[e3,e4,e5]
 clear e1 e2 e3 e4 e5 he hk hl
 generalize vS (M.take k)=A at *
 generalize vS (L.take k)=C at *
 generalize 4294967296^k=P at *
 have e6:P*r+P*(4294967296*q)=P*cc+P*e*1000000000:=by rw[← Nat.mul_add,hdm,Nat.mul_add,Nat.mul_assoc]
 generalize P*r=u1 at *
 generalize P*(4294967296*q)=u2 at *
 generalize P*cc=u3 at *
 generalize P*e=u4 at *
 omega
theorem bits_end(N k m n t a:Nat)(hN:N=a+4294967296^n*t)(ha:a<4294967296^n)(ht1:2^m≤t)(ht2:t<2^(m+1))(h1:2^k≤N)(h2:N<2^(k+1)):k=32*n+m:=by
 have e:(4294967296:Nat)^n=2^(32*n):=by rw[show (4294967296:Nat)=2^32 by decide,← Nat.pow_mul]
 rw[e] at hN ha
 have q1:2^(32*n+m)≤N:=by
  rw[Nat.pow_add]
  have:=Nat.mul_le_mul_left (2^(32*n)) ht1
  omega
 have q2:N<2^(32*n+m+1):=by
  rw[Nat.add_assoc,Nat.pow_add]
  have:2^(32*n)*(t+1)≤2^(32*n)*2^(m+1):=Nat.mul_le_mul_left _ ht2
  rw[Nat.mul_add,Nat.mul_one] at this
  omega
 have a1:=(Nat.pow_lt_pow_iff_right (a:=2) (by decide)).1 (Nat.lt_of_le_of_lt h1 q2)
 have a2:=(Nat.pow_lt_pow_iff_right (a:=2) (by decide)).1 (Nat.lt_of_le_of_lt q1 h2)
 omega
theorem bitLen_of{x m:Nat}(h0:x≠0)(hx:x<18446744073709551616)(h:Lib.bitLen x=m):1≤m∧2^(m-1)≤x∧x<2^m:=by
 have:=Lib.bitLenAux_bounds 64 x (by rw[show (2:Nat)^64=18446744073709551616 by decide];exact hx) h0
 have e:Lib.bitLenAux 64 x=m:=h
 rw[e] at this
 exact this
theorem limbs_getD(n:Nat):∀ i,(limbs n).getD i 0=n/1000000000^i%1000000000:=by
 intro i
 induction i generalizing n with
 | zero =>
  rcases Nat.eq_zero_or_pos n with h|h
  ·subst h;rw[limbs_zero];rfl
  ·rw[limbs_pos h,Nat.pow_zero,Nat.div_one];rfl
 | succ i ih =>
  rcases Nat.eq_zero_or_pos n with h|h
  ·subst h;rw[limbs_zero,Nat.zero_div];rfl
  ·rw[limbs_pos h,List.getD_cons_succ,ih,Nat.div_div_eq_div_mul,Nat.pow_succ,Nat.mul_comm 1000000000]
def vW:List Nat→Nat
 | []=>0
 | x::l=>x+18446744073709551616*vW l
theorem vW_append:∀ (a b:List Nat),vW (a++b)=vW a+18446744073709551616^a.length*vW b
 | [],b=>by simp[vW]
 | x::a,b=>by
  simp only[List.cons_append,vW,List.length_cons,vW_append a b,Nat.pow_succ]
  rw[Nat.mul_add,← Nat.mul_assoc,Nat.mul_comm (18446744073709551616^a.length)]
  omega
theorem vW_snoc(a:List Nat)(x:Nat):vW (a++[x])=vW a+18446744073709551616^a.length*x:=by
 rw[vW_append];simp[vW]
theorem vW_zeros(k:Nat):vW (List.replicate k 0)=0:=by
 induction k with
 | zero=>rfl
 | succ k ih=>rw[List.replicate_succ];simp[vW,ih]
def Wds (l:List Nat):Prop:=∀ x∈l,x<18446744073709551616
theorem Wds.getD{l:List Nat}(h:Wds l)(i:Nat):l.getD i 0<18446744073709551616:=by
 rw[List.getD_eq_getElem?_getD]
 cases hk:l[i]? with
 | none=>simp
 | some x=>exact h x (List.mem_of_getElem? hk)
theorem Wds.set{l:List Nat}(h:Wds l)(i x:Nat)(hx:x<18446744073709551616):Wds (l.set i x):=fun y hy=>by
 rcases List.mem_or_eq_of_mem_set hy with hy|hy
 ·exact h y hy
 ·rw[hy];exact hx
theorem Wds.take{l:List Nat}(h:Wds l)(k:Nat):Wds (l.take k):=fun x hx=>h x (List.mem_of_mem_take hx)
theorem Wds.append{l m:List Nat}(h:Wds l)(h2:Wds m):Wds (l++m):=fun x hx=>(List.mem_append.1 hx).elim (h x) (h2 x)
theorem Wds.zeros(k:Nat):Wds (List.replicate k 0):=fun x hx=>by rw[List.eq_of_mem_replicate hx];decide
theorem vW_lt:∀ {l:List Nat},Wds l→vW l<18446744073709551616^l.length
 | [],_=>by simp[vW]
 | x::l,h=>by
  have h1:=h x List.mem_cons_self
  have h2:=vW_lt (l:=l) fun y hy=>h y (List.mem_cons_of_mem _ hy)
  rw[List.length_cons,Nat.pow_succ,vW]
  omega
theorem vW_take_drop(l:List Nat)(k:Nat)(h:k≤l.length):vW l=vW (l.take k)+18446744073709551616^k*vW (l.drop k):=by
 conv=>lhs;rw[← List.take_append_drop k l]
 rw[vW_append,List.length_take,Nat.min_eq_left h]
theorem vW_take_succ(l:List Nat)(k:Nat)(h:k<l.length):vW (l.take (k+1))=vW (l.take k)+18446744073709551616^k*l.getD k 0:=by
 have e:l.getD k 0=l[k]:=by rw[List.getD_eq_getElem?_getD,List.getElem?_eq_getElem h];rfl
 rw[List.take_succ_eq_append_getElem h,vW_snoc,List.length_take,Nat.min_eq_left (Nat.le_of_lt h),e]
theorem vW_set:∀ (l:List Nat) (k x:Nat),k<l.length→vW (l.set k x)+18446744073709551616^k*l.getD k 0=vW l+18446744073709551616^k*x
 | [],k,x,h=>by simp at h
 | y::l,0,x,h=>by simp[vW];omega
 | y::l,k+1,x,h=>by
  have ih:=vW_set l k x (by simpa using h)
  simp only[List.set_cons_succ,vW,List.getD_cons_succ,Nat.pow_succ]
  rw[Nat.mul_comm (18446744073709551616^k),Nat.mul_assoc,Nat.mul_assoc]
  omega
theorem vW_take{l:List Nat}(h:Wds l){k:Nat}(hk:k≤l.length):vW (l.take k)=vW l%18446744073709551616^k:=by
 have h1:=vW_lt (h.take k)
 rw[List.length_take,Nat.min_eq_left hk] at h1
 rw[vW_take_drop l k hk,Nat.add_mul_mod_self_left,Nat.mod_eq_of_lt h1]
theorem vW_drop{l:List Nat}(h:Wds l){k:Nat}(hk:k≤l.length):vW (l.drop k)=vW l/18446744073709551616^k:=by
 have h1:=vW_lt (h.take k)
 rw[List.length_take,Nat.min_eq_left hk] at h1
 rw[vW_take_drop l k hk,Nat.add_mul_div_left _ _ (Nat.pow_pos (by decide)),Nat.div_eq_of_lt h1,Nat.zero_add]
theorem vW_digit{l:List Nat}(h:Wds l)(k:Nat):l.getD k 0=vW l/18446744073709551616^k%18446744073709551616:=by
 by_cases hk:k<l.length
 ·rw[← vW_drop h (Nat.le_of_lt hk),List.drop_eq_getElem_cons hk,vW,Nat.add_mul_mod_self_left]
  have e:l.getD k 0=l[k]:=by rw[List.getD_eq_getElem?_getD,List.getElem?_eq_getElem hk];rfl
  rw[e,Nat.mod_eq_of_lt (h _ (List.getElem_mem hk))]
 ·have h1:=vW_lt h
  have h2:18446744073709551616^l.length≤18446744073709551616^k:=Nat.pow_le_pow_right (by decide) (by omega)
  rw[Nat.div_eq_of_lt (by omega),List.getD_eq_getElem?_getD,List.getElem?_eq_none (by omega)];rfl
theorem vW_of_digits{l:List Nat}{X m:Nat}(hl:l.length=m)(h:∀ i,i<m→l.getD i 0=X/18446744073709551616^i%18446744073709551616):vW l=X%18446744073709551616^m:=by
 have key:∀ k,k≤m→vW (l.take k)=X%18446744073709551616^k:=by
  intro k
  induction k with
  | zero=>intro _;simp[vW,Nat.mod_one]
  | succ k ih =>
   intro hk
   rw[vW_take_succ l k (by omega),ih (by omega),h k (by omega),Nat.pow_succ,Nat.mod_mul]
 have:=key m nr_
 rwa [List.take_of_length_le (by omega)] at this
/-! Squares. -/
theorem sq_step(M q:List Nat)(i m x cc vL:Nat)(hm:m<q.length)(hi:i+m<M.length)
  (h:vW M+18446744073709551616^(i+m)*cc=vL+18446744073709551616^i*(x*vW (q.take m))) :
  vW (M.set (i+m) ((x*q.getD m 0+M.getD (i+m) 0+cc)%18446744073709551616))+18446744073709551616^(i+(m+1))*((x*q.getD m 0+M.getD (i+m) 0+cc)/18446744073709551616) =
   vL+18446744073709551616^i*(x*vW (q.take (m+1))):=by
 have hs:=vW_set M (i+m) ((x*q.getD m 0+M.getD (i+m) 0+cc)%18446744073709551616) hi
 rw[vW_take_succ q m hm]
 generalize M.getD (i+m) 0=e at *
 generalize q.getD m 0=y at *
 have hdm:=Nat.mod_add_div (x*y+e+cc) 18446744073709551616
 have e1:18446744073709551616^(i+(m+1))*((x*y+e+cc)/18446744073709551616)=18446744073709551616^(i+m)*(18446744073709551616*((x*y+e+cc)/18446744073709551616)):=by
  rw[← Nat.add_assoc,Nat.pow_succ,Nat.mul_assoc]
 have e2:18446744073709551616^(i+m)*((x*y+e+cc)%18446744073709551616)+18446744073709551616^(i+m)*(18446744073709551616*((x*y+e+cc)/18446744073709551616))=18446744073709551616^(i+m)*(x*y)+18446744073709551616^(i+m)*e+18446744073709551616^(i+m)*cc:=by
  rw[← Nat.mul_add,hdm,Nat.mul_add,Nat.mul_add]
 have e3:18446744073709551616^i*(x*(vW (q.take m)+18446744073709551616^m*y))=18446744073709551616^i*(x*vW (q.take m))+18446744073709551616^(i+m)*(x*y):=by
  rw[Nat.mul_add,Nat.mul_add,Nat.pow_add,Nat.mul_assoc,Nat.mul_left_comm x]
 rw[e1,e3]
 omega
theorem sq_row(L M p q:List Nat)(i cc:Nat)(hi:i<p.length)(hlen:i+q.length<M.length)(hz:M.getD (i+q.length) 0=0)
  (hL:vW L=vW (p.take i)*vW q)
  (h:vW M+18446744073709551616^(i+q.length)*cc=vW L+18446744073709551616^i*(p.getD i 0*vW (q.take q.length))) :
  vW (M.set (i+q.length) cc)=vW (p.take (i+1))*vW q:=by
 have hs:=vW_set M (i+q.length) cc hlen
 rw[hz,Nat.mul_zero,Nat.add_zero] at hs
 rw[List.take_length] at h
 rw[hs,h,hL,vW_take_succ p i hi,Nat.add_mul,Nat.mul_assoc]
/-! Shifts. -/
theorem or_high(X a k:Nat)(ha:a<2^k):a ||| (2^k*X)=a+2^k*X:=by
 have:=Nat.two_pow_add_eq_or_of_lt ha X
 rw[Nat.or_comm,← this,Nat.add_comm]
theorem word_shift(Y r:Nat)(hr:0<r)(h64:r<64):(Y%18446744073709551616)/2^r ||| (Y/18446744073709551616%18446744073709551616*2^(64-r)%18446744073709551616)=Y/2^r%18446744073709551616:=by
 have hB:(18446744073709551616:Nat)=2^(64-r)*2^r:=by rw[← Nat.pow_add,show 64-r+r=64 by omega]
 have h2r:0<2^r:=Nat.two_pow_pos r
 have ha:(Y%18446744073709551616)/2^r<2^(64-r):=by
  rw[Nat.div_lt_iff_lt_mul h2r,← hB]
  exact Nat.mod_lt _ (by decide)
 generalize hb:Y/18446744073709551616%18446744073709551616=b
 have e1:b*2^(64-r)%18446744073709551616=2^(64-r)*(b%2^r):=by
  conv=>lhs;rw[hB]
  rw[Nat.mul_comm b,Nat.mul_mod_mul_left]
 rw[e1,or_high _ _ _ ha]
 have e2:Y/2^r=(Y%18446744073709551616)/2^r+2^(64-r)*(Y/18446744073709551616):=by
  have h1:Y=Y%18446744073709551616+2^r*(2^(64-r)*(Y/18446744073709551616)):=by
   rw[← Nat.mul_assoc,Nat.mul_comm (2^r),← hB]
   exact(Nat.mod_add_div _ _).symm
  conv=>lhs;rw[h1]
  rw[Nat.add_mul_div_left _ _ h2r]
 rw[e2]
 have e3:b%2^r=Y/18446744073709551616%2^r:=by
  rw[← hb,Nat.mod_mod_of_dvd]
  rw[hB];exact Nat.dvd_mul_left _ _
 rw[e3]
 generalize (Y%18446744073709551616)/2^r=a at *
 generalize Y/18446744073709551616=Z
 have e4:(a+2^(64-r)*Z)%18446744073709551616=a+2^(64-r)*(Z%2^r):=by
  rw[hB,Nat.mod_mul,Nat.add_mul_mod_self_left,Nat.mod_eq_of_lt ha,Nat.add_mul_div_left _ _ (Nat.two_pow_pos _),Nat.div_eq_of_lt ha,Nat.zero_add]
 rw[e4]
theorem shift_digit(N wo r i:Nat):N/2^(64*wo+r)/18446744073709551616^i=N/18446744073709551616^(i+wo)/2^r:=by
 have e:(18446744073709551616:Nat)=2^64:=by decide
 rw[e,← Nat.pow_mul,← Nat.pow_mul,Nat.div_div_eq_div_mul,Nat.div_div_eq_div_mul,← Nat.pow_add,← Nat.pow_add]
 congr 2
 omega
theorem shift_high(N i:Nat):N/18446744073709551616^(i+1)=N/18446744073709551616^i/18446744073709551616:=by
 rw[Nat.pow_succ,Nat.div_div_eq_div_mul]
def shW (n:List Nat) (wo r m:Nat):List Nat:=(List.range m).map fun i=>if r=0 then n.getD (i+wo) 0 else n.getD (i+wo) 0/2^r ||| (n.getD (i+wo+1) 0*2^(64-r)%18446744073709551616)
theorem shW_length(n:List Nat)(wo r m:Nat):(shW n wo r m).length=m:=by simp[shW]
theorem shW_get(n:List Nat)(wo r m i:Nat)(h:i<m):(shW n wo r m).getD i 0=if r=0 then n.getD (i+wo) 0 else n.getD (i+wo) 0/2^r ||| (n.getD (i+wo+1) 0*2^(64-r)%18446744073709551616):=by
 unfold shW
 rw[List.getD_eq_getElem?_getD,List.getElem?_map,List.getElem?_range h];rfl
theorem shW_digit{n:List Nat}(h:Wds n){wo r m i:Nat}(hr:r<64)(hi:i<m):(shW n wo r m).getD i 0=vW n/2^(64*wo+r)/18446744073709551616^i%18446744073709551616:=by
 rw[shW_get n wo r m i hi,shift_digit]
 by_cases h0:r=0
 ·rw[if_pos h0,h0,vW_digit h,Nat.pow_zero,Nat.div_one]
 ·rw[if_neg h0,vW_digit h,vW_digit h (i+wo+1),shift_high]
  exact word_shift _ r (by omega) hr
theorem shW_wds{n:List Nat}(h:Wds n){wo r m:Nat}(hr:r<64):Wds (shW n wo r m):=by
 intro x hx
 obtain⟨i,hi,rfl⟩:=List.mem_iff_getElem.1 hx
 rw[shW_length] at hi
 have e:=shW_digit h (wo:=wo) hr hi
 rw[List.getD_eq_getElem?_getD,List.getElem?_eq_getElem (by rw[shW_length];exact hi)] at e
 have e':(shW n wo r m)[i]=vW n/2^(64*wo+r)/18446744073709551616^i%18446744073709551616:=e
 rw[e']
 exact Nat.mod_lt _ (by decide)
theorem shW_val{n:List Nat}(h:Wds n){wo r m:Nat}(hr:r<64)(hm:n.length≤wo+m):vW (shW n wo r m)=vW n/2^(64*wo+r):=by
 rw[vW_of_digits (shW_length n wo r m) fun i hi=>shW_digit h hr hi]
 refine Nat.mod_eq_of_lt ?_
 have h1:=vW_lt h
 have h2:18446744073709551616^n.length≤18446744073709551616^(wo+m):=Nat.pow_le_pow_right (by decide) hm
 have e:(18446744073709551616:Nat)=2^64:=by decide
 have h3:vW n/2^(64*wo+r)≤vW n/2^(64*wo):=Nat.div_le_div_left (Nat.pow_le_pow_right (by decide) (by omega)) (Nat.two_pow_pos _)
 refine Nat.lt_of_le_of_lt h3 ?_
 rw[Nat.div_lt_iff_lt_mul (Nat.two_pow_pos _),Nat.pow_mul,← e,← Nat.pow_add,Nat.add_comm m]
 omega
theorem vW_zero_iff:∀ (l:List Nat),vW l=0↔∀ x∈l,x=0
 | []=>by simp[vW]
 | x::l=>by
  have:=vW_zero_iff l
  rw[vW]
  constructor
  ·intro h y hy
   rcases List.mem_cons.1 hy with rfl|hy
   ·omega
   ·exact this.1 (by omega) y hy
  ·intro h
   have h1:=h x List.mem_cons_self
   have h2:=this.2 fun y hy=>h y (List.mem_cons_of_mem _ hy)
   omega
/-! One more. -/
theorem next_step(M:List Nat)(N k cc:Nat)(hk:k<M.length)(h:vW M+18446744073709551616^k*cc=N):
  vW (M.set k ((M.getD k 0+cc)%18446744073709551616))+18446744073709551616^(k+1)*((M.getD k 0+cc)/18446744073709551616)=N:=by
 have hs:=vW_set M k ((M.getD k 0+cc)%18446744073709551616) hk
 generalize M.getD k 0=e at *
 have hdm:=Nat.mod_add_div (e+cc) 18446744073709551616
 have e1:18446744073709551616^(k+1)*((e+cc)/18446744073709551616)=18446744073709551616^k*(18446744073709551616*((e+cc)/18446744073709551616)):=by
  rw[Nat.pow_succ,Nat.mul_assoc]
 have e2:18446744073709551616^k*((e+cc)%18446744073709551616)+18446744073709551616^k*(18446744073709551616*((e+cc)/18446744073709551616))=18446744073709551616^k*e+18446744073709551616^k*cc:=by
  rw[← Nat.mul_add,hdm,Nat.mul_add]
 rw[e1]
 omega
theorem elN:ElemOf Tryz.prog 272 193 (.int .u64 0) 1 8:=⟨Tryz.underlying272,info_parts infoU,rfl,by decide⟩
theorem made_n(n:Nat)(w:World)(hn:n≤100000000):
  (Instr.makeSlice 272 (.int .i64 (n:Int)) (.int .i64 (n:Int))).run Tryz.prog w = .ok (.slice (some ⟨w.heap.size,0,none⟩) n n) (w.alloc (.cells (u64s (List.replicate n 0)).toArray 193)):=by
 have:=run_make_row' (P:=Tryz.prog) 272 193 (.int .u64 0) 8 Tryz.underlying272 infoU rfl .i64 .i64 n (by omega) (by omega) w
 rw[made_zeros] at this
 exact this
structure NW (W:World) where
 w:World
 b:Below W.heap.size W w
theorem NW.cell{W:World}{p:Addr}{v:Value}(h:W.cell? p=some v)(q:NW W):q.w.cell? p=some v:=(q.b.cell (block_lt_of_cell h)).trans h
def laysAdd_ren:Go.Shelf.Ren:=⟨fun | 25=>248 | n=>n,fun | 22=>193 | n=>n,fun | n=>n⟩
theorem laysAdd:Go.Proofs.Lays7.n25 Tryz.prog laysAdd_ren:={
 mixed:=by kernel_rfl
 f25:=Tryz.func248.trans (congrArg some (by kernel_rfl))
 t22:=Tryz.underlying193
 a22:=Tryz.isAgg193
 z22:=Tryz.sizeOf193
 v22:=Tryz.zeroValue193
 i22:=by kernel_rfl }
theorem add64_run(x y c:Nat)(hc:c≤1)(w:World):
  (callFunc 248 #[.int .u64 x,.int .u64 y,.int .u64 c]).run Tryz.prog w = .ok (.value (.tuple #[.int .u64 (((x+y+c)%18446744073709551616:Nat):Int),.int .u64 (((x+y+c)/18446744073709551616:Nat):Int)])) w:=Any7.bits_Add64 laysAdd x y c hc w
theorem add64_zero(x y:Nat)(w:World):
  (callFunc 248 #[.int .u64 x,.int .u64 y,.int .u64 0]).run Tryz.prog w = .ok (.value (.tuple #[.int .u64 (((x+y)%18446744073709551616:Nat):Int),.int .u64 (((x+y)/18446744073709551616:Nat):Int)])) w:=add64_run x y 0 (by omega) w
structure QOut (p:List Nat) (B k:Nat) (L:List Nat) (w wr:World):Prop where
 len:L.length=2*p.length+1
 pcs:Wds L
 v:vW L=vW (p.take k)*vW p
 z:∀ j,k+p.length≤j→L.getD j 0=0
 own:OwnU wr B (some ⟨B,0,none⟩) (2*p.length+1) L
 bel:Below B w wr
structure QIn (p L:List Nat) (B i m cc:Nat) (M:List Nat) (w wr:World):Prop where
 len:M.length=2*p.length+1
 pcs:Wds M
 v:vW M+18446744073709551616^(i+m)*cc=vW L+18446744073709551616^i*(p.getD i 0*vW (p.take m))
 z:∀ j,i+p.length≤j→M.getD j 0=0
 own:OwnU wr B (some ⟨B,0,none⟩) (2*p.length+1) M
 bel:Below B w wr
theorem mulW_le{x y:Nat}(hx:x<18446744073709551616)(hy:y<18446744073709551616):x*y≤340282366920938463426481119284349108225:=Nat.mul_le_mul (show x≤18446744073709551615 by omega) (show y≤18446744073709551615 by omega)
structure SqW (xy e cc h l l1 c1 h1 l2 c2 h2:Nat):Prop where
 hh:xy/18446744073709551616=h
 hl:xy%18446744073709551616=l
 k1:(l+e)%18446744073709551616=l1
 k2:(l+e)/18446744073709551616=c1
 k3:h+c1=h1
 k4:(l1+cc)%18446744073709551616=l2
 k5:(l1+cc)/18446744073709551616=c2
 k6:h1+c2=h2
 r1:(xy+e+cc)%18446744073709551616=l2
 r2:(xy+e+cc)/18446744073709551616=h2
 b1:h1<18446744073709551616
 b2:h2<18446744073709551616
theorem sqW{xy e cc:Nat}(hxy:xy≤340282366920938463426481119284349108225)(he:e<18446744073709551616)(hc:cc<18446744073709551616):
  ∃ h l l1 c1 h1 l2 c2 h2,SqW xy e cc h l l1 c1 h1 l2 c2 h2:=by
 refine⟨_,_,_,_,_,_,_,_,⟨rfl,rfl,rfl,rfl,rfl,rfl,rfl,rfl,?_,?_,?_,?_⟩⟩<;>omega
theorem square_any(w:World)(a1:Option Addr)(c1:Nat)(p:List Nat)(h1:ReadsU w a1 p)(p1:Wds p)(l1:p.length≤10000):
  Calls Tryz.prog 223 #[.slice a1 p.length c1] w fun e w'=>∃ a c L,e = .returned (.slice a (2*p.length+1) c)∧L.length=2*p.length+1∧OwnU w' w.heap.size a c L∧Wds L∧vW L=vW p*vW p∧Below w.heap.size w w':=by
 have H1:=hd_ h1
 have P1:=hd_ p1
 clear h1 p1
 obtain⟨n,hn⟩:∃ n,p.length=n:=⟨_,rfl⟩
 have Hn:=hd_ hn
 rw[hn] at l1 ⊢
 clear hn
 have hmk:=made_n (2*n+1) w (by omega)
 have Hown:=hd_ (own_made w (List.replicate (2*n+1) 0) (by simp;omega))
 have Hb:=hd_ ((Below.refl w.heap.size w).alloc nr_ (.cells (u64s (List.replicate (2*n+1) 0)).toArray 193))
 push_cast at hmk
 generalize w.alloc (.cells (u64s (List.replicate (2*n+1) 0)).toArray 193)=w1 at *
 go_enter Tryz.func223,Tryz.ntmps223
 go_wp2_with fail
 go_loopw [19] (fun i wr=>∃ (k:Nat) (L:List Nat),k≤n∧i = .int .i64 k∧Hid (QOut p w.heap.size k L w wr)) (fun i _=>n-(intOf i).toNat)
 case atStart =>
  refine⟨0,List.replicate (2*n+1) 0,Nat.zero_le _,rfl,?_⟩
  refine⟨by simp[Hn.out],Wds.zeros _,by simp[vW_zeros,vW],fun j _=>?_,?_,Hb.out⟩
  ·rw[List.getD_eq_getElem?_getD,List.getElem?_replicate];split<;>rfl
  ·have:=Hown.out
   rw[List.length_replicate] at this
   rw[Hn.out];exact this
 case round =>
  obtain⟨k,L,hk,rfl,HT⟩:=hrel
  clear Hown Hb hmk
  by_cases hlt:k<n
  ·obtain⟨b1,o1,rfl,hb1,hc1⟩:=H1.out.open (by rw[Hn.out];omega)
   have cx:=hc1 k (by rw[Hn.out];exact hlt)
   rw[← HT.out.bel.cell (p:=⟨b1,o1+k,none⟩) hb1] at cx
   have hx:=P1.out.getD k
   clear hc1
   obtain⟨x,hxx⟩:∃ x,p.getD k 0=x:=⟨_,rfl⟩
   rw[hxx] at cx hx
   have Hxx:=hd_ hxx
   clear hxx
   obtain⟨wo,hwo⟩:∃ wo:World,wo=wr:=⟨_,rfl⟩
   subst hwo
   go_wp2_with fail
   go_loopw [6,26] (fun c j wr=>∃ (t cc:Nat) (M:List Nat),t≤n∧cc<18446744073709551616∧j = .int .i64 t∧c = .int .u64 cc∧Hid (QIn p L w.heap.size k t cc M w wr)) (fun _ j _=>n-(intOf j).toNat)
   case atStart =>
    refine⟨0,0,L,Nat.zero_le _,by omega,rfl,rfl,?_⟩
    exact⟨HT.out.len,HT.out.pcs,by simp[vW],HT.out.z,HT.out.own,HT.out.bel⟩
   case round =>
    obtain⟨t,cc,M,ht,hcc,rfl,rfl,HI⟩:=hrel
    obtain⟨g,hg,hg1,hg2,hg3,hg4,hg5⟩:=HI.out.own.open (by rw[HI.out.len,Hn.out];omega)
    obtain rfl:w.heap.size=g:=by simpa using hg
    clear hg
    by_cases hlt2:t<n
    ·have cy0:=H1.out.open (by rw[Hn.out];omega)
     obtain⟨b2,o2,e2,hb2,hc2⟩:=cy0
     have cy:=hc2 t (by rw[Hn.out];exact hlt2)
     rw[← HI.out.bel.cell (p:=⟨b2,o2+t,none⟩) hb2] at cy
     simp only[Option.some.injEq,Addr.mk.injEq,and_true] at e2
     obtain⟨rfl,rfl⟩:=e2
     have hy:=P1.out.getD t
     have ce:=hg4 (k+t) (by rw[HI.out.len,Hn.out];omega)
     have he:=HI.out.pcs.getD (k+t)
     have fe:=hg5 (k+t)
     have hxy:=mulW_le hx hy
     have hstep:=sq_step M p k t x cc (vW L) (by rw[Hn.out];exact hlt2) (by rw[HI.out.len,Hn.out];omega) (by have:=HI.out.v;rw[Hxx.out] at this;exact this)
     have HI2:Hid (QIn p L w.heap.size k (t+1) ((x*p.getD t 0+M.getD (k+t) 0+cc)/18446744073709551616) (M.set (k+t) ((x*p.getD t 0+M.getD (k+t) 0+cc)%18446744073709551616)) w (wr.setCell ⟨w.heap.size,k+t,none⟩ (.int .u64 ((x*p.getD t 0+M.getD (k+t) 0+cc)%18446744073709551616:Nat)))) :=
      ⟨by rw[List.length_set];exact HI.out.len,HI.out.pcs.set _ _ (Nat.mod_lt _ (by decide)),by rw[Hxx.out];exact hstep,fun j hj=>by rw[limb_set_ne _ _ _ _ (by have:=Hn.out;omega)];exact HI.out.z j hj,HI.out.own.store (k+t) _,HI.out.bel.setCell (p:=⟨w.heap.size,k+t,none⟩) nr_ _⟩
     have hm1:=Tryz.bits_Mul64 x (p.getD t 0) hx hy wr
     clear hstep hc2 hg4 hg5
     generalize M.getD (k+t) 0=e at *
     generalize p.getD t 0=y at *
     generalize x*y=xy at *
     obtain⟨h,l,l1',c1',h1',l2,c2,h2,W⟩:=sqW hxy he hcc
     have ha1:=fun W=>add64_zero l e W
     have ha2:=fun W=>add64_zero l1' cc W
     rw[W.k1,W.k2] at ha1
     rw[W.k4,W.k5] at ha2
     rw[W.hh,W.hl] at hm1
     rw[W.r1,W.r2] at HI2
     have hw1:IntKind.u64.wrap ((h:Int)+c1')=(h1':Nat):=by rw[← Int.natCast_add,W.k3];exact wrap_u _ W.b1
     have hw2:IntKind.u64.wrap ((h1':Int)+c2)=(h2:Nat):=by rw[← Int.natCast_add,W.k6];exact wrap_u _ W.b2
     have hb2:=W.b2
     have hkt:IntKind.i64.wrap ((k:Int)+t)=((k+t:Nat):Int):=by rw[← Int.natCast_add];exact iw_ _ (by omega)
     clear W hxy hx hy he
     go_wp2_with fail
     refine cm_ hm1 ?_
     rintro e_ w3 ⟨rfl,rfl⟩
     clear hm1
     go_wp2
     go_roundw
     case rel=>exact⟨t+1,h2,_,by omega,hb2,by go_num,rfl,HI2⟩
     case measure=>simp[intOf];omega
    ·obtain rfl:t=n:=by omega
     have fe:=hg5 (k+t)
     have ce:=hg4 (k+t) (by rw[HI.out.len,Hn.out];omega)
     have hz:M.getD (k+t) 0=0:=HI.out.z _ (by rw[Hn.out];exact Nat.le_refl _)
     have hrow:=sq_row L M p p k cc (by rw[Hn.out];exact hlt) (by rw[HI.out.len,Hn.out];omega) (HI.out.z _ nr_) HT.out.v (by rw[Hn.out];exact HI.out.v)
     rw[Hn.out] at hrow
     have HT2:Hid (QOut p w.heap.size (k+1) (M.set (k+t) cc) w (wr.setCell ⟨w.heap.size,k+t,none⟩ (.int .u64 (cc:Nat)))) :=
      ⟨by rw[List.length_set];exact HI.out.len,HI.out.pcs.set _ _ hcc,hrow,fun j hj=>by rw[limb_set_ne _ _ _ _ (by have:=Hn.out;omega)];exact HI.out.z j (by have:=Hn.out;omega),HI.out.own.store (k+t) cc,HI.out.bel.setCell (p:=⟨w.heap.size,k+t,none⟩) nr_ _⟩
     rw[hz] at ce
     have hkt:IntKind.i64.wrap ((k:Int)+t)=((k+t:Nat):Int):=by rw[← Int.natCast_add];exact iw_ _ (by omega)
     have hwc:IntKind.u64.wrap (cc:Int)=cc:=wrap_u _ hcc
     clear hrow hg4 hg5 hlt2 HT hz
     go_wp2
     go_roundw
     case rel=>exact⟨k+1,_,by omega,by go_num,HT2⟩
     case measure=>simp[intOf];omega
  ·obtain rfl:k=n:=by omega
   have hv:vW L=vW p*vW p:=by
    have:=HT.out.v
    rw[← Hn.out,List.take_length] at this
    exact this
   have hlen:=HT.out.len
   rw[Hn.out] at hlen
   have Hv:=hd_ hv
   have Hl:=hd_ hlen
   have Ho:=HT.out.own
   rw[Hn.out] at Ho
   have HO:=hd_ Ho
   clear hv hlt hlen Ho
   go_wp2_with fail
   go_ret
   exact⟨_,_,L,rfl,Hl.out,HO.out,HT.out.pcs,Hv.out,HT.out.bel⟩
def shM (n:List Nat) (wo r m k:Nat):List Nat:=(shW n wo r m).take k++List.replicate (m-k) 0
theorem shM_zero(n:List Nat)(wo r m:Nat):shM n wo r m 0=List.replicate m 0:=by simp[shM]
theorem shM_all(n:List Nat)(wo r m:Nat):shM n wo r m m=shW n wo r m:=by
 unfold shM
 rw[Nat.sub_self,List.replicate_zero,List.append_nil,List.take_of_length_le (by rw[shW_length];exact Nat.le_refl _)]
theorem shM_length(n:List Nat)(wo r m k:Nat)(h:k≤m):(shM n wo r m k).length=m:=by
 unfold shM
 rw[List.length_append,List.length_take,shW_length,List.length_replicate];omega
theorem shM_set(n:List Nat)(wo r m k:Nat)(h:k<m):(shM n wo r m k).set k ((shW n wo r m).getD k 0)=shM n wo r m (k+1):=by
 have hl:((shW n wo r m).take k).length=k:=by rw[List.length_take,shW_length];omega
 unfold shM
 rw[List.set_append_right _ _ (by omega),hl,Nat.sub_self,List.take_add_one,List.getElem?_eq_getElem (by rw[shW_length];exact h),show m-k=(m-(k+1))+1 by omega,List.replicate_succ,List.set_cons_zero,List.append_assoc]
 congr 1
 rw[List.getD_eq_getElem?_getD,List.getElem?_eq_getElem (by rw[shW_length];exact h)]
 rfl
theorem or_words(x y r:Nat)(hx:x<18446744073709551616):
  bits .or .u64 ((x:Int)/2^r) (IntKind.u64.wrap ((y:Int)*2^(64-r)))=((x/2^r ||| (y*2^(64-r)%18446744073709551616):Nat):Int):=by
 have e1:(x:Int)/2^r=((x/2^r:Nat):Int):=by
  rw[Int.natCast_ediv,Int.natCast_pow];rfl
 have e2:IntKind.u64.wrap ((y:Int)*2^(64-r))=((y*2^(64-r)%18446744073709551616:Nat):Int):=by
  rw[IntKind.wrap_u64,Int.natCast_emod,Int.natCast_mul,Int.natCast_pow];rfl
 rw[e1,e2]
 exact(bits_nat .u64 64 (by decide) (fun n h0 h1=>by rw[IntKind.wrap_u64];omega) (x/2^r) (y*2^(64-r)%18446744073709551616) (by have:=Nat.div_le_self x (2^r);omega) (by have:=Nat.mod_lt (y*2^(64-r)) (show 0<18446744073709551616 by decide);omega)).2
theorem shift_any(w:World)(a1:Option Addr)(c1:Nat)(p:List Nat)(b wo r:Nat)(e:b=64*wo+r)(hr:r<64)(h1:ReadsU w a1 p)(p1:Wds p)(l1:p.length≤30000)(hwo:wo<p.length):
  Calls Tryz.prog 224 #[.slice a1 p.length c1,.int .i64 b] w fun e w'=>∃ a c,e = .returned (.slice a (p.length-wo) c)∧OwnU w' w.heap.size a c (shW p wo r (p.length-wo))∧Below w.heap.size w w':=by
 have H1:=hd_ h1
 have P1:=hd_ p1
 clear h1 p1
 obtain⟨n,hn⟩:∃ n,p.length=n:=⟨_,rfl⟩
 have Hn:=hd_ hn
 rw[hn] at l1 hwo ⊢
 clear hn
 obtain⟨m,hm⟩:∃ m,n-wo=m:=⟨_,rfl⟩
 have hq:Int.tdiv (b:Int) 64=(wo:Nat):=by rw[Int.tdiv_eq_ediv_of_nonneg (by omega)];omega
 have hq':(b:Int)/64=(wo:Nat):=by omega
 have ht:Int.tmod (b:Int) 64=(r:Nat):=by rw[Int.tmod_eq_emod_of_nonneg (by omega)];omega
 have ht':(b:Int)%64=(r:Nat):=by omega
 have hws:IntKind.i64.wrap ((n:Int)-wo)=(n:Int)-wo:=iw_ _ (by omega)
 have hnm:((m:Nat):Int)=(n:Int)-wo:=by omega
 have hmx:max ((n:Int)-wo) 0=(n:Int)-wo:=by omega
 have hmk:=made_n m w (by omega)
 rw[hnm] at hmk
 have Hown:=hd_ (own_made w (List.replicate m 0) (by simp;omega))
 have Hb:=hd_ ((Below.refl w.heap.size w).alloc nr_ (.cells (u64s (List.replicate m 0)).toArray 193))
 generalize w.alloc (.cells (u64s (List.replicate m 0)).toArray 193)=w1 at *
 rw[List.length_replicate] at Hown
 rw[hm]
 clear e
 go_enter Tryz.func224,Tryz.ntmps224
 go_wp2_with fail
 go_loopw [21] (fun i wr=>∃ k:Nat,k≤m∧i = .int .i64 k∧Hid (OwnU wr w.heap.size (some ⟨w.heap.size,0,none⟩) m (shM p wo r m k))∧Hid (Below w.heap.size w wr)) (fun i _=>m-(intOf i).toNat)
 case atStart=>exact⟨0,Nat.zero_le _,rfl,by rw[shM_zero];exact Hown,Hb⟩
 case round =>
  obtain⟨k,hk,rfl,HO,HB⟩:=hrel
  clear Hown Hb hmk
  by_cases hlt:k<m
  ·have hlt':(k:Int)<m:=by omega
   obtain⟨b1,o1,rfl,hb1,hc1⟩:=H1.out.open (by rw[Hn.out];omega)
   have cx:=hc1 (k+wo) (by rw[Hn.out];omega)
   rw[← HB.out.cell (p:=⟨b1,o1+(k+wo),none⟩) hb1] at cx
   have hx:=P1.out.getD (k+wo)
   obtain⟨g,hg,hg1,hg2,hg3,hg4,hg5⟩:=HO.out.open (by rw[shM_length _ _ _ _ _ hk];omega)
   obtain rfl:w.heap.size=g:=by simpa using hg
   clear hg
   have ce:=hg4 k (by rw[shM_length _ _ _ _ _ hk];omega)
   have fe:=hg5 k
   have hkw:IntKind.i64.wrap ((k:Int)+wo)=((k+wo:Nat):Int):=by rw[← Int.natCast_add];exact iw_ _ (by omega)
   have hget:=shW_get p wo r m k hlt
   have hset:=shM_set p wo r m k hlt
   have hev:((p.getD (k+wo) 0:Nat):Int)/2^r=((p.getD (k+wo) 0/2^r:Nat):Int):=by rw[Int.natCast_ediv,Int.natCast_pow];rfl
   have hvx:p.getD (k+wo) 0/2^r≤p.getD (k+wo) 0:=Nat.div_le_self _ _
   have Hv:=hd_ (show (r=0→p.getD (k+wo) 0/2^r=p.getD (k+wo) 0) from fun h=>by rw[h,Nat.pow_zero,Nat.div_one])
   have Hor:=hd_ (fun y=>or_words (p.getD (k+wo) 0) y r hx)
   have hcy:k+wo+1<n→wr.cell? ⟨b1,o1+(k+wo+1),none⟩=some (.int .u64 (p.getD (k+wo+1) 0:Nat)):=fun h=>by
    rw[HB.out.cell (p:=⟨b1,o1+(k+wo+1),none⟩) hb1];exact hc1 (k+wo+1) (by rw[Hn.out];exact h)
   have hb1':b1<wr.heap.size:=Nat.lt_of_lt_of_le hb1 HB.out.size
   have hne:b1≠w.heap.size:=by omega
   have HB1:=fun (u:Value)=>HB.out.setCell (p:=⟨w.heap.size,k,none⟩) nr_ u
   have HO1:=hd_ (HO.out.store k (p.getD (k+wo) 0/2^r))
   clear hc1 hg4 hg5 hg3 hlt'
   generalize p.getD (k+wo) 0=x at *
   generalize x/2^r=v at *
   by_cases h1:r=0
   ·have hE:(shW p wo r m).getD k 0=v:=by rw[hget,if_pos h1];exact(Hv.out h1).symm
    rw[hE] at hset
    rw[hset] at HO1
    have h0:¬ (0:Int)<r:=by omega
    have HR:=hd_ (HB1 (.int .u64 v))
    clear hget hset hE HB1 Hor Hv hcy HO HB h1
    go_wp2_with fail
    refine⟨⟨k+1,by omega,by go_num,HO1,HR⟩,by simp[intOf];omega⟩
   ·by_cases h2:k+wo+1<n
    ·have cy:=hcy h2
     have hE:=hget
     rw[if_neg h1] at hE
     have hbits:=Hor.out (p.getD (k+wo+1) 0)
     have hy:=P1.out.getD (k+wo+1)
     rw[hev] at hbits
     have h0:(0:Int)<r:=by omega
     have h2':(k:Int)+wo+1<n:=by omega
     have hkw1:IntKind.i64.wrap (((k+wo:Nat):Int)+1)=((k+wo+1:Nat):Int):=by rw[← Int.natCast_succ];exact iw_ _ (by omega)
     have h64:IntKind.i64.wrap (64-(r:Int))=((64-r:Nat):Int):=by rw[show (64:Int)-r=((64-r:Nat):Int) by omega];exact iw_ _ (by omega)
     generalize p.getD (k+wo+1) 0=y at *
     have ce1:(wr.setCell ⟨w.heap.size,k,none⟩ (.int .u64 (v:Nat))).cell? ⟨w.heap.size,k,none⟩=some (.int .u64 (v:Nat)):=World.cell?_setCell_same _ _ _ ce
     have fe1:(wr.setCell ⟨w.heap.size,k,none⟩ (.int .u64 (v:Nat))).frozen? ⟨w.heap.size,k,none⟩=false:=by rw[World.frozen?_setCell];exact fe
     have cy1:(wr.setCell ⟨w.heap.size,k,none⟩ (.int .u64 (v:Nat))).cell? ⟨b1,o1+(k+wo+1),none⟩=some (.int .u64 (y:Nat)):=by
      rw[World.cell?_setCell_other _ _ _ _ (by simp)];exact cy
     have HBv:=hd_ (HB1 (.int .u64 (v:Nat)))
     have HE:=hd_ hE
     clear hget hE Hv hcy HO HB HB1 cy
     generalize hW1:wr.setCell ⟨w.heap.size,k,none⟩ (.int .u64 (v:Nat))=W1 at *
     have q1:=NW.cell ce1
     have q2:=NW.cell cy1
     have hnon:Nonempty (NW W1):=⟨⟨W1,Below.refl _ _⟩⟩
     have I:Hid (Below W1.heap.size W1 W1.drew):=(Below.refl _ _).drew
     go_wp2_with fail
     refine RP.wp_region_readers 16 [(2,0),(2,1),(2,2),(1,3),(2,4),(2,5),(2,6),(2,7),(2,8),(2,9),(1,10),(2,11),(2,12),(2,13),(2,14),(2,15),(0,16)] (fun w'=>∃ p:NW W1,w'=p.w) (by kernel_rfl) (by kernel_rfl) ?_ ?_
     ·exact⟨⟨_,I.out⟩,rfl⟩
     iterate 3 (refine RP.walkR_any ?_;simp only[dsc_,dz_,tsc_,tz_];go_big_quiet_step (fail);refine wpQuiet_nil ?_)
     iterate 1 (refine RP.walkR_read ?_;simp only[dsc_,dz_,tsc_,tz_];go_big_quiet_step (fail);refine wpQuiet_nil ?_)
     iterate 6 (refine RP.walkR_any ?_;simp only[dsc_,dz_,tsc_,tz_];go_big_quiet_step (fail);refine wpQuiet_nil ?_)
     iterate 1 (refine RP.walkR_read ?_;simp only[dsc_,dz_,tsc_,tz_];go_big_quiet_step (fail);refine wpQuiet_nil ?_)
     iterate 5 (refine RP.walkR_any ?_;simp only[dsc_,dz_,tsc_,tz_];go_big_quiet_step (fail);refine wpQuiet_nil ?_)
     iterate 1 (refine RP.walkR_move ?_;simp only[dsc_,dz_,tsc_,tz_];go_wp2_with fail)
     simp only[RP.walkR]
     go_wp2_with fail
     have HO2:=HO1.out.store k (v ||| y*2^(64-r)%18446744073709551616)
     have e2:((shM p wo r m k).set k v).set k (v ||| y*2^(64-r)%18446744073709551616)=shM p wo r m (k+1):=by rw[List.set_set,← HE.out];exact hset
     rw[e2] at HO2
     refine⟨⟨k+1,by omega,by go_num,HO2.below (below_drawn _ 1) nr_,below_dn (HBv.out.setCell (p:=⟨w.heap.size,k,none⟩) nr_ _) 1⟩,by simp[intOf];omega⟩
    ·have hz:p.getD (k+wo+1) 0=0:=by
      rw[List.getD_eq_getElem?_getD,List.getElem?_eq_none (by rw[Hn.out];omega)];rfl
     have hE:(shW p wo r m).getD k 0=v:=by rw[hget,if_neg h1,hz,Nat.zero_mul,Nat.zero_mod,Nat.or_zero]
     rw[hE] at hset
     rw[hset] at HO1
     have h0:(0:Int)<r:=by omega
     have h2':¬ (k:Int)+wo+1<n:=by omega
     have hkw1:IntKind.i64.wrap (((k+wo:Nat):Int)+1)=((k+wo+1:Nat):Int):=by rw[← Int.natCast_succ];exact iw_ _ (by omega)
     have HR:=hd_ (HB1 (.int .u64 v))
     clear hget hset hE HB1 Hor Hv hcy HO HB hz
     go_wp2_with fail
     refine⟨⟨k+1,by omega,by go_num,HO1,HR⟩,by simp[intOf];omega⟩
  ·obtain rfl:k=m:=by omega
   rw[shM_all] at HO
   go_wp2_with fail
   go_ret
   exact⟨_,_,rfl,HO.out,HB.out⟩
theorem nclone_any(w:World)(a:Option Addr)(c:Nat)(l:List Nat)(hr:ReadsU w a l)(hl:l.length≤30000)(h0:0<l.length):
  Calls Tryz.prog 222 #[.slice a l.length c] w fun e w'=>∃ g d,e = .returned (.slice (some ⟨g,0,none⟩) l.length d)∧OwnU w' w.heap.size (some ⟨g,0,none⟩) d l∧Below w.heap.size w w':=by
 obtain⟨i0,hi,hz0,hz1,hz2⟩:=info_parts infoU
 have q22:∀ (w:World) (a:Option Addr) (n c n' c':Nat),(binOp .eql 272 (.slice a n c) (.slice none n' c')).run Tryz.prog w = .ok (.bool a.isNone) w:=fun w a n c n' c'=>Lib.run_eql_slice_nil w _ _ a n c n' c' Tryz.underlying272
 obtain⟨b,o,rfl,hb',hc0⟩:=hr.open h0
 have Hc:Hid (∀ j u,(u64s l)[j]?=some u→w.cell? ⟨b,o+j,none⟩=some u):=fun j u hj=>by
  have hlt:j<l.length:=by
   have:=(List.getElem?_eq_some_iff.1 hj).1
   rw[u64s_length] at this;exact this
  rw[u64s_get l j hlt] at hj
  rw[← hj];exact hc0 j hlt
 have Hone:Hid (∀ u∈u64s l,u.oneCell'=true):=u64s_one l
 have Hlen:Hid ((u64s l).length=l.length):=u64s_length l
 clear hc0 hr
 unfold OwnU
 generalize u64s l=vs at *
 generalize l.length=n at *
 go_enter Tryz.func222,Tryz.ntmps222
 go_wp2_with (at_builtin;refine wpList_append_own _ rfl _ _ 272 rfl w.heap.size 193 i0 (.int .u64 0) 1 8 Tryz.underlying272 hi hz0 hz1 hz2 rfl (by decide) _ _ _ rfl (World.ownsRow_made w #[] 0 nr_ (Nat.zero_le _) rfl) ⟨b,o,none⟩ n c vs rfl ?qc1 ?qc2 ?qc3 ?qc4 ?qc5 ?qc6 ?_)
 case qc1=>rw[Hlen.out];omega
 case qc2 =>
  intro j u hj
  rw[Addr.add_lit]
  exact Lib.cell?_alloc_some _ (Hc.out j u hj)
 case qc3=>exact Hone.out
 case qc4=>unfold maxLen;omega
 case qc5=>omega
 case qc6=>simp
 intro v' w1 hown hgrow hnil
 obtain⟨a3,d3,rfl⟩:=own_form hown
 have hown':w1.ownsRow w.heap.size 193 1 (.slice a3 n d3) n vs:=by simpa using hown
 have B:=hd_ (((Below.refl _ w).alloc nr_ (.cells #[] 193)).grown hgrow (by simp) (by intro k hk;simp[Value.ownBlock] at hk;omega))
 obtain⟨g,cap,hv,-,-,-,-,-⟩:=own_open hown' h0
 simp only[Value.slice.injEq] at hv
 obtain⟨rfl,-,rfl⟩:=hv
 have O:=hd_ hown'
 clear hown hown' hgrow hnil
 go_wp2_with fail
 go_ret
 exact⟨g,d3,rfl,O.out,B.out⟩
structure NxI (B n k cc N g c:Nat) (M:List Nat) (w wr:World):Prop where
 len:M.length=n+1
 pcs:Wds M
 v:vW M+18446744073709551616^k*cc=N
 own:OwnU wr B (some ⟨g,0,none⟩) c M
 bel:Below B w wr
theorem next_any(w:World)(a1:Option Addr)(c1:Nat)(p:List Nat)(h1:ReadsU w a1 p)(p1:Wds p)(l1:p.length≤20000)(h0:0<p.length):
  Calls Tryz.prog 225 #[.slice a1 p.length c1] w fun e w'=>∃ a c L,e = .returned (.slice a (p.length+1) c)∧L.length=p.length+1∧OwnU w' w.heap.size a c L∧Wds L∧vW L=vW p+1∧Below w.heap.size w w':=by
 have HC:=hd_ (nclone_any w a1 c1 p h1 (by omega) h0)
 have P1:=hd_ p1
 have hlt:=vW_lt p1
 have hv0:vW (p++[0])=vW p:=by rw[vW_append];simp[vW]
 have Hlt:=hd_ hlt
 have Hv0:=hd_ hv0
 have Hpw:Hid (Wds (p++[0])):=p1.append (Wds.zeros 1)
 clear p1 hlt hv0 h1
 obtain⟨n,hn⟩:∃ n,p.length=n:=⟨_,rfl⟩
 have Hn:=hd_ hn
 rw[hn] at l1 h0 HC Hlt ⊢
 clear hn
 go_enter Tryz.func225,Tryz.ntmps225
 go_wp2_with fail
 refine cm_ HC.out ?_
 rintro e w1 ⟨g,d,rfl,ho,hb⟩
 have HO:=hd_ ho
 have HB:=hd_ hb
 clear ho hb HC
 have Hown:Hid (w1.ownsRow w.heap.size 193 1 (.slice (some ⟨g,0,none⟩) n d) n (u64s p)):=by have:=HO.out;unfold OwnU at this;rw[Hn.out] at this;exact this
 have Hsz:=hd_ HB.out.size
 go_wp2_with (at_builtin;refine wpList_append_new rfl (.tmp 7) (.tmp 8) 272 rfl elN _ 1 [.int .u64 0] rfl rfl Hown.out Hsz.out rfl (by simp[Value.oneCell']) (by omega) (by omega) ?_)
 intro v' w2 hown hgrow hnil
 obtain⟨a3,d3,rfl⟩:=own_form hown
 have hown':w2.ownsRow w.heap.size 193 1 (.slice a3 (n+1) d3) (n+1) (u64s (p++[0])):=by rw[u64s_append];exact hown
 obtain⟨g2,cap,hv,-,-,-,-,-⟩:=own_open hown' (by omega)
 simp only[Value.slice.injEq] at hv
 obtain⟨rfl,-,rfl⟩:=hv
 have Hlen:Hid ((p++[0]).length=n+1):=by show _=_;rw[List.length_append,Hn.out];rfl
 have HI0:Hid (NxI w.heap.size n 0 1 (vW p+1) g2 d3 (p++[0]) w w2):=by
  refine⟨Hlen.out,Hpw.out,by rw[Nat.pow_zero,Hv0.out],?_,(HB.out.alloc Hsz.out _).grown hgrow (by rw[World.alloc];simp;have:=Hsz.out;omega) (by intro k hk;simp[Value.ownBlock] at hk;exact(World.ownsRow.lt Hown.out k (by simp[Value.ownBlock];exact hk)).1)⟩
  unfold OwnU
  rw[Hlen.out]
  exact hown'
 clear hown hown' hgrow hnil HO HB Hown Hsz Hpw
 go_wp2_with fail
 go_loopw [4,12] (fun cv i wr=>∃ (k cc:Nat) (M:List Nat),k≤n+1∧cc≤1∧i = .int .i64 k∧cv = .int .u64 cc∧Hid (NxI w.heap.size n k cc (vW p+1) g2 d3 M w wr)) (fun _ i _=>n+1-(intOf i).toNat)
 case atStart=>exact⟨0,1,_,Nat.zero_le _,Nat.le_refl _,rfl,rfl,HI0⟩
 case round =>
  obtain⟨k,cc,M,hk,hcc,rfl,rfl,HI⟩:=hrel
  clear HI0
  by_cases hlt:k<n+1
  ·obtain⟨g,hg,hg1,hg2,hg3,hg4,hg5⟩:=HI.out.own.open (by rw[HI.out.len];omega)
   obtain rfl:g2=g:=by simpa using hg
   clear hg
   have hlt':(k:Int)<(n:Int)+1:=by omega
   have ce:=hg4 k (by rw[HI.out.len];exact hlt)
   have fe:=hg5 k
   have he:=HI.out.pcs.getD k
   have hst:=next_step M (vW p+1) k cc (by rw[HI.out.len];exact hlt) HI.out.v
   have hadd:∀ W,(callFunc 248 #[.int .u64 (M.getD k 0:Nat),.int .u64 0,.int .u64 cc]).run Tryz.prog W = .ok (.value (.tuple #[.int .u64 (((M.getD k 0+cc)%18446744073709551616:Nat):Int),.int .u64 (((M.getD k 0+cc)/18446744073709551616:Nat):Int)])) W:=fun W=>by
    have:=add64_run (M.getD k 0) 0 cc hcc W
    rw[Nat.add_zero] at this
    exact this
   have hc2:(M.getD k 0+cc)/18446744073709551616≤1:=by omega
   have hkw:IntKind.i64.wrap ((k:Int)+1)=((k+1:Nat):Int):=by rw[← Int.natCast_succ];exact iw_ _ (by omega)
   have HI2:Hid (NxI w.heap.size n (k+1) ((M.getD k 0+cc)/18446744073709551616) (vW p+1) g2 d3 (M.set k ((M.getD k 0+cc)%18446744073709551616)) w (wr.setCell ⟨g2,k,none⟩ (.int .u64 ((M.getD k 0+cc)%18446744073709551616:Nat)))) :=
    ⟨by rw[List.length_set];exact HI.out.len,HI.out.pcs.set _ _ (Nat.mod_lt _ (by decide)),hst,HI.out.own.store k _,HI.out.bel.setCell (p:=⟨g2,k,none⟩) hg1 _⟩
   have Hc2:=hd_ hc2
   clear hst hc2 hg4 hg5 hg3 he HI
   generalize (M.getD k 0+cc)/18446744073709551616=q at *
   generalize (M.getD k 0+cc)%18446744073709551616=v at *
   generalize M.getD k 0=e at *
   go_wp2_with fail
   refine⟨⟨k+1,q,_,by omega,Hc2.out,by go_num,rfl,HI2⟩,by simp[intOf];omega⟩
  ·obtain rfl:k=n+1:=by omega
   have hlt':¬ ((n+1:Nat):Int)<(n:Int)+1:=by omega
   have hv:=HI.out.v
   have hfin:cc=0:=by
    have h2:=Hlt.out
    have h3:18446744073709551616^n<18446744073709551616^(n+1):=Nat.pow_lt_pow_right (by decide) (by omega)
    rcases Nat.eq_zero_or_pos cc with h|h
    ·exact h
    ·have h4:18446744073709551616^(n+1)*1≤18446744073709551616^(n+1)*cc:=Nat.mul_le_mul_left _ h
     generalize 18446744073709551616^(n+1)*cc=Z at *
     omega
   rw[hfin,Nat.mul_zero,Nat.add_zero] at hv
   have Hv:=hd_ hv
   have hlen:=HI.out.len
   have Hl:=hd_ hlen
   have Ho:=HI.out.own
   clear hv hlen hfin
   go_wp2_with fail
   go_ret
   exact⟨_,_,rfl,M,Hl.out,Ho,HI.out.pcs,Hv.out,HI.out.bel⟩
theorem reach_iff{l:List Nat}{b wo r:Nat}(e:b=64*wo+r)(hr:r<64)(h:Wds l)(hw:wo<l.length):(∃ i,i<l.length-wo∧(shW l wo r (l.length-wo)).getD i 0≠0)↔2^b≤vW l:=by
 have hv:=shW_val h (wo:=wo) (m:=l.length-wo) hr (by omega)
 have hz:=vW_zero_iff (shW l wo r (l.length-wo))
 rw[hv,← e] at hz
 have h1:vW l/2^b=0↔vW l<2^b:=Nat.div_eq_zero_iff_lt (Nat.two_pow_pos b)
 have hl:=shW_length l wo r (l.length-wo)
 constructor
 ·rintro⟨i,hi,hne⟩
  refine Nat.le_of_not_lt fun hc=>?_
  have h2:=hz.1 (h1.2 hc) ((shW l wo r (l.length-wo)).getD i 0)
  refine hne (h2 ?_)
  rw[List.getD_eq_getElem?_getD,List.getElem?_eq_getElem (by rw[hl];exact hi)]
  exact List.getElem_mem _
 ·intro hc
  refine Decidable.byContradiction fun hn=>?_
  have h2:=h1.1 (hz.2 fun x hx=>?_)
  ·omega
  ·obtain⟨i,hi,rfl⟩:=List.mem_iff_getElem.1 hx
   refine Decidable.byContradiction fun hx=>hn ⟨i,by rw[hl] at hi;exact hi,?_⟩
   rw[List.getD_eq_getElem?_getD,List.getElem?_eq_getElem hi]
   exact hx
theorem reaches_any(w:World)(a1:Option Addr)(c1:Nat)(p:List Nat)(b wo r:Nat)(e:b=64*wo+r)(hr:r<64)(h1:ReadsU w a1 p)(p1:Wds p)(l1:p.length≤30000)(hwo:wo<p.length):
  Gives Tryz.prog 226 #[.slice a1 p.length c1,.int .i64 b] w (.bool (decide (2^b≤vW p))):=by
 unfold Gives
 have HS:=hd_ (shift_any w a1 c1 p b wo r e hr h1 p1 l1 hwo)
 have Hiff:=hd_ (reach_iff e hr p1 hwo)
 obtain⟨m,hm⟩:∃ m,p.length-wo=m:=⟨_,rfl⟩
 have Hwd:=hd_ (shW_wds p1 (wo:=wo) (m:=p.length-wo) hr)
 have Hlen:=hd_ (shW_length p wo r (p.length-wo))
 have hmb:m≤30000:=by omega
 have hm0:0<m:=by omega
 rw[hm] at HS Hiff Hwd Hlen
 clear e h1 p1 l1 hwo hm hr
 obtain⟨dd,hdd⟩:∃ dd,decide (2^b≤vW p)=dd:=⟨_,rfl⟩
 have Hdd:=hd_ hdd
 rw[hdd]
 clear hdd
 generalize shW p wo r m=Ls at *
 go_enter Tryz.func226,Tryz.ntmps226
 go_wp2_with fail
 refine cm_ HS.out ?_
 rintro e w1 ⟨a,c,rfl,ho,hb⟩
 have HO:=hd_ ho
 have HB:=hd_ hb
 clear ho hb HS
 go_wp2_with fail
 go_loopw [11] (fun i wr=>∃ k:Nat,k≤m∧i = .int .i64 k∧Hid (∀ j,j<k→Ls.getD j 0=0)∧Hid (Below w1.heap.size w1 wr)) (fun i _=>m-(intOf i).toNat)
 case atStart=>exact⟨0,Nat.zero_le _,rfl,fun j hj=>absurd hj (Nat.not_lt_zero j),Below.refl _ _⟩
 case round =>
  obtain⟨k,hk,rfl,HZ,HB2⟩:=hrel
  by_cases hlt:k<m
  ·obtain⟨g,rfl,hg1,hg2,hg3,hg4,hg5⟩:=HO.out.open (by rw[Hlen.out];omega)
   have ce:=hg4 k (by rw[Hlen.out];exact hlt)
   rw[← HB2.out.cell (p:=⟨g,k,none⟩) hg2] at ce
   have hkw:IntKind.i64.wrap ((k:Int)+1)=((k+1:Nat):Int):=by rw[← Int.natCast_succ];exact iw_ _ (by omega)
   have hlt':(k:Int)<m:=by omega
   obtain⟨x,hx⟩:∃ x,Ls.getD k 0=x:=⟨_,rfl⟩
   have Hx:=hd_ hx
   rw[hx] at ce
   clear hx hg4 hg5 hg3
   by_cases h0:x=0
   ·have HZ2:Hid (∀ j,j<k+1→Ls.getD j 0=0):=fun j hj=>by
     rcases Nat.lt_or_ge j k with h|h
     ·exact HZ.out j h
     ·obtain rfl:j=k:=by omega
      rw[Hx.out,h0]
    subst h0
    go_wp2_with fail
    refine⟨⟨k+1,by omega,by go_num,HZ2,HB2⟩,by simp[intOf];omega⟩
   ·have Hd:Hid (dd=true):=by
     show _=_
     rw[← Hdd.out,decide_eq_true_eq]
     exact Hiff.out.1 ⟨k,hlt,by rw[Hx.out];exact h0⟩
    go_wp2_with fail
    go_ret
    exact⟨by rw[Hd.out];rfl,HB.out.trans (HB2.out.mono HB.out.size)⟩
  ·obtain rfl:k=m:=by omega
   have Hd:Hid (dd=false):=by
    show _=_
    rw[← Hdd.out,decide_eq_false_iff_not]
    intro hc
    obtain⟨i,hi,hne⟩:=Hiff.out.2 hc
    exact hne (HZ.out i hi)
   go_wp2_with fail
   go_ret
   exact⟨by rw[Hd.out];rfl,HB.out.trans (HB2.out.mono HB.out.size)⟩
end Go.Proofs.YtnjedhgcfeoemaaGreatDoor

namespace Go.Proofs.YtnjedhgcfeoemaaGreatDoor.LN
def lgGo (unit:Nat):Nat→Nat→Nat→Nat→Option Nat
 | 0,_,_,out=>some out
 | n+1,lo,hi,out =>
  if 2*unit≤lo*lo/unit then lgGo unit n (lo*lo/unit/2) ((hi*hi/unit+1)/2+1) (2*out+1)
  else if 2*unit≤hi*hi/unit+1 then none
  else lgGo unit n (lo*lo/unit) (hi*hi/unit+1) (2*out)
def lg (p k n more:Nat):Option Nat:=lgGo (2^more) n (p*2^(more-k)) (p*2^(more-k)) k
def dotI:List Int→List Int→Int
 | a::l,b::m=>a*b+dotI l m
 | _,_=>0
def sumAbs (l:List Int):Nat:=(l.map Int.natAbs).sum
def comb (x:Int) (u:List Int) (y:Int) (v:List Int):List Int:=List.zipWith (fun a b=>x*a-y*b) u v
theorem dotI_comb(x y:Int):∀ (u v k:List Int),u.length=v.length→dotI (comb x u y v) k=x*dotI u k-y*dotI v k
 | [],[],_,_=>by simp[comb,dotI]
 | a::u,b::v,[],_=>by simp[comb,dotI]
 | a::u,b::v,c::k,h=>by
  have ih:=dotI_comb x y u v k (by simpa using h)
  have e:comb x (a::u) y (b::v)=(x*a-y*b)::comb x u y v:=rfl
  rw[e]
  simp only[dotI]
  rw[ih]
  grind
 | [],_::_,_,h=>by simp at h
 | _::_,[],_,h=>by simp at h
theorem dotI_le(K:Nat):∀ (u k:List Int),(∀ x∈k,x.natAbs≤K)→(dotI u k).natAbs≤sumAbs u*K
 | [],_,_=>by simp[dotI]
 | _::_,[],_=>by simp[dotI]
 | a::u,b::k,h=>by
  have ih:=dotI_le K u k fun x hx=>h x (List.mem_cons_of_mem _ hx)
  have hb:=h b List.mem_cons_self
  have e:sumAbs (a::u)=a.natAbs+sumAbs u:=by simp[sumAbs]
  rw[e,Nat.add_mul]
  simp only[dotI]
  have h1:=Int.natAbs_add_le (a*b) (dotI u k)
  rw[Int.natAbs_mul] at h1
  have h2:a.natAbs*b.natAbs≤a.natAbs*K:=Nat.mul_le_mul_left _ hb
  omega
def unitRow (m i:Nat) (d:Int):List Int:=(List.range m).map fun j=>if j=i then d else 0
def combs (m:Nat):List Int→List (List Int)→List Int
 | x::l,u::ls=>comb x u (-1) (combs m l ls)
 | _,_=>List.replicate m 0
theorem combs_length(m:Nat):∀ (l:List Int) (U:List (List Int)),(∀ u∈U,u.length=m)→(combs m l U).length=m
 | [],_,_=>by simp[combs]
 | _::_,[],_=>by simp[combs]
 | x::l,u::U,h=>by
  have ih:=combs_length m l U fun v hv=>h v (List.mem_cons_of_mem _ hv)
  simp only[combs,comb,List.length_zipWith,ih,h u List.mem_cons_self,Nat.min_self]
theorem dotI_zero(m:Nat)(k:List Int):dotI (List.replicate m 0) k=0:=by
 induction m generalizing k with
 | zero=>rfl
 | succ m ih =>
  cases k with
  | nil=>rfl
  | cons b k=>rw[List.replicate_succ,dotI,ih];simp
theorem dotI_combs(m:Nat)(k:List Int):∀ (l:List Int) (U:List (List Int)),(∀ u∈U,u.length=m)→(∀ u∈U,dotI u k=0)→dotI (combs m l U) k=0
 | [],_,_,_=>by rw[combs];exact dotI_zero m k;simp
 | _::_,[],_,_=>by rw[combs];exact dotI_zero m k;simp
 | x::l,u::U,h,h0=>by
  rw[combs,dotI_comb _ _ _ _ _ (by rw[combs_length m l U fun v hv=>h v (List.mem_cons_of_mem _ hv)];exact h u List.mem_cons_self),h0 u List.mem_cons_self,
   dotI_combs m k l U (fun v hv=>h v (List.mem_cons_of_mem _ hv)) (fun v hv=>h0 v (List.mem_cons_of_mem _ hv))]
  simp
theorem dotI_unit(d:Int):∀ (m i s:Nat) (k:List Int),dotI ((List.range' s m).map fun j=>if j=i then d else 0) k=if s≤i∧i<s+m then d*k.getD (i-s) 0 else 0
 | 0,i,s,k=>by
  rw[if_neg (by omega)];rfl
 | m+1,i,s,[]=>by simp[List.range'_succ,dotI]
 | m+1,i,s,b::k=>by
  rw[List.range'_succ,List.map_cons,dotI,dotI_unit d m i (s+1) k]
  by_cases h:s=i
  ·subst h
   rw[if_pos rfl,if_neg (by omega),if_pos (by omega)];simp
  ·rw[if_neg h]
   by_cases h2:s+1≤i∧i<s+1+m
   ·rw[if_pos h2,if_pos (by omega)]
    have e:i-s=(i-(s+1))+1:=by omega
    rw[e];simp
   ·rw[if_neg h2,if_neg (by omega)];simp
def certOk (a:Int) (L:List Int) (U V:List (List Int)) (d:Int) (K S:Nat):Bool :=
 decide (0<a)&&decide (d≠0) &&
 U.all (fun u=>decide (u.length=L.length)&&decide (sumAbs (comb a u (u.headD 0) L)*K+(u.headD 0).natAbs*S<a.natAbs)) &&
 decide (V.length=L.length)&&(List.range L.length).all (fun i=>decide (combs L.length (V.getD i []) U=unitRow L.length i d))
theorem cert_zero{a:Int}{L:List Int}{U V:List (List Int)}{d:Int}{K S:Nat}(h:certOk a L U V d K S=true)(k:List Int)(hk:k.length=L.length)(hK:∀ x∈k,x.natAbs≤K)(hS:(dotI L k).natAbs<S):
  ∀ x∈k,x=0:=by
 unfold certOk at h
 simp only[Bool.and_eq_true,decide_eq_true_eq,List.all_eq_true,List.mem_range] at h
 obtain⟨⟨⟨⟨ha,hd⟩,hU⟩,hV⟩,hI⟩:=h
 have h0:∀ u∈U,dotI u k=0:=by
  intro u hu
  obtain⟨h1,h2⟩:=hU u hu
  have e:=dotI_comb a (u.headD 0) u L k h1
  have b:=dotI_le K (comb a u (u.headD 0) L) k hK
  generalize u.headD 0=q at *
  generalize dotI u k=f at *
  generalize dotI L k=T at *
  generalize sumAbs (comb a u q L)*K=A at *
  rw[e] at b
  have h3:(a*f).natAbs≤(a*f-q*T).natAbs+(q*T).natAbs:=by omega
  rw[Int.natAbs_mul,Int.natAbs_mul q T] at h3
  have h5:q.natAbs*T.natAbs≤q.natAbs*S:=Nat.mul_le_mul_left _ (by omega)
  have h6:a.natAbs*f.natAbs<a.natAbs*1:=by omega
  have h7:f.natAbs<1:=Nat.lt_of_mul_lt_mul_left h6
  omega
 intro x hx
 obtain⟨i,hi,rfl⟩:=List.mem_iff_getElem.1 hx
 have h1:=hI i (by omega)
 have h2:=dotI_combs L.length k (V.getD i []) U (fun u hu=>(hU u hu).1) h0
 rw[h1,unitRow,List.range_eq_range',dotI_unit d _ i 0 k,if_pos (by omega)] at h2
 rw[Nat.sub_zero,List.getD_eq_getElem?_getD,List.getElem?_eq_getElem hi,Option.getD_some] at h2
 rcases Int.mul_eq_zero.1 h2 with h3|h3
 ·exact absurd h3 hd
 ·exact h3
def upT:List (Int×Int)→Nat
 | []=>1
 | x::l=>x.1.toNat^x.2.toNat*upT l
def negT (l:List (Int×Int)):List (Int×Int):=l.map fun x=>(x.1,-x.2)
theorem negT_negT(l:List (Int×Int)):negT (negT l)=l:=by
 unfold negT
 rw[List.map_map]
 conv=>rhs;rw[← List.map_id l]
 refine List.map_congr_left fun x _=>?_
 simp
def signT (l:List (Int×Int)):Int:=if upT (negT l)<upT l then 1 else if upT l<upT (negT l) then -1 else 0
structure LogAt (n:Nat) (p:Int) (L:Nat):Prop where
 le:2^L≤p.toNat^(2^n)
 lt:p.toNat^(2^n)<2^(L+1)
 two:p=2→L=2^n
 odd:p≠2→2^L<p.toNat^(2^n)
def hiL (f:Int→Nat) (p:Int):Nat:=if p=2 then f p else f p+1
def loS (f:Int→Nat):List (Int×Int)→Nat
 | []=>0
 | x::l=>x.2.toNat*f x.1+loS f l
def hiS (f:Int→Nat):List (Int×Int)→Nat
 | []=>0
 | x::l=>x.2.toNat*hiL f x.1+hiS f l
theorem pow_le_up(n:Nat)(f:Int→Nat):∀ l:List (Int×Int),(∀ x∈l,LogAt n x.1 (f x.1))→2^loS f l≤upT l^(2^n)
 | [],_=>by simp[loS,upT]
 | x::l,h=>by
  have ih:=pow_le_up n f l fun y hy=>h y (List.mem_cons_of_mem _ hy)
  have hx:=(h x List.mem_cons_self).le
  rw[loS,upT,Nat.pow_add,Nat.mul_pow]
  refine Nat.mul_le_mul ?_ ih
  rw[← Nat.pow_mul,Nat.mul_comm x.2.toNat,Nat.mul_comm x.2.toNat,Nat.pow_mul,Nat.pow_mul]
  exact Nat.pow_le_pow_left hx _
theorem up_pos(n:Nat)(f:Int→Nat)(l:List (Int×Int))(h:∀ x∈l,LogAt n x.1 (f x.1)):0<upT l:=by
 have:=pow_le_up n f l h
 by_cases h0:upT l=0
 ·rw[h0,Nat.zero_pow (Nat.two_pow_pos _)] at this
  have:=Nat.two_pow_pos (loS f l)
  omega
 ·omega
theorem up_le_pow(n:Nat)(f:Int→Nat):∀ l:List (Int×Int),(∀ x∈l,LogAt n x.1 (f x.1))→upT l^(2^n)≤2^hiS f l
 | [],_=>by simp[hiS,upT]
 | x::l,h=>by
  have ih:=up_le_pow n f l fun y hy=>h y (List.mem_cons_of_mem _ hy)
  have hx:=h x List.mem_cons_self
  have hh:x.1.toNat^(2^n)≤2^hiL f x.1:=by
   unfold hiL
   split
   ·rename_i e;rw[hx.two e,e];exact Nat.le_refl _
   ·exact Nat.le_of_lt hx.lt
  rw[hiS,upT,Nat.pow_add,Nat.mul_pow]
  refine Nat.mul_le_mul ?_ ih
  rw[← Nat.pow_mul,Nat.mul_comm x.2.toNat,Nat.pow_mul,Nat.mul_comm x.2.toNat,Nat.pow_mul 2]
  exact Nat.pow_le_pow_left hh _
theorem mul_lt_left{a b c d:Nat}(h:a<b)(h2:c≤d)(hd:0<d):a*c<b*d:=Nat.lt_of_le_of_lt (Nat.mul_le_mul_left _ h2) (Nat.mul_lt_mul_of_pos_right h hd)
theorem mul_lt_right{a b c d:Nat}(h:a≤b)(h2:c<d)(hb:0<b):a*c<b*d:=Nat.lt_of_le_of_lt (Nat.mul_le_mul_right _ h) (Nat.mul_lt_mul_of_pos_left h2 hb)
theorem pow_lt_up(n:Nat)(f:Int→Nat):∀ l:List (Int×Int),(∀ x∈l,LogAt n x.1 (f x.1))→(∃ x∈l,x.1≠2∧0<x.2)→2^loS f l<upT l^(2^n)
 | [],_,h=>by obtain⟨_,h,_⟩:=h;cases h
 | x::l,h,h2=>by
  have hl:∀ y∈l,LogAt n y.1 (f y.1):=fun y hy=>h y (List.mem_cons_of_mem _ hy)
  have ih0:=pow_le_up n f l hl
  have hx:=h x List.mem_cons_self
  have hp0:=Nat.pow_pos (n:=2^n) (up_pos n f l hl)
  rw[loS,upT,Nat.pow_add,Nat.mul_pow]
  have e1:2^(x.2.toNat*f x.1)=(2^f x.1)^x.2.toNat:=by rw[Nat.mul_comm,Nat.pow_mul]
  have e2:(x.1.toNat^x.2.toNat)^(2^n)=(x.1.toNat^(2^n))^x.2.toNat:=by rw[← Nat.pow_mul,Nat.mul_comm,Nat.pow_mul]
  rw[e1,e2]
  obtain⟨y,hy,hy2,hy0⟩:=h2
  rcases List.mem_cons.1 hy with rfl|hy
  ·exact mul_lt_left (Nat.pow_lt_pow_left (hx.odd hy2) (by omega)) ih0 hp0
  ·have ih:=pow_lt_up n f l hl ⟨y,hy,hy2,hy0⟩
   exact mul_lt_right (Nat.pow_le_pow_left hx.le _) ih (Nat.pow_pos (Nat.lt_of_lt_of_le (Nat.two_pow_pos _) hx.le))
theorem up_lt_pow(n:Nat)(f:Int→Nat):∀ l:List (Int×Int),(∀ x∈l,LogAt n x.1 (f x.1))→(∃ x∈l,x.1≠2∧0<x.2)→upT l^(2^n)<2^hiS f l
 | [],_,h=>by obtain⟨_,h,_⟩:=h;cases h
 | x::l,h,h2=>by
  have hl:∀ y∈l,LogAt n y.1 (f y.1):=fun y hy=>h y (List.mem_cons_of_mem _ hy)
  have ih0:=up_le_pow n f l hl
  have hx:=h x List.mem_cons_self
  have hh:x.1.toNat^(2^n)≤2^hiL f x.1:=by
   unfold hiL
   split
   ·rename_i e;rw[hx.two e,e];exact Nat.le_refl _
   ·exact Nat.le_of_lt hx.lt
  rw[hiS,upT,Nat.pow_add,Nat.mul_pow]
  have e1:2^(x.2.toNat*hiL f x.1)=(2^hiL f x.1)^x.2.toNat:=by rw[Nat.mul_comm,Nat.pow_mul]
  have e2:(x.1.toNat^x.2.toNat)^(2^n)=(x.1.toNat^(2^n))^x.2.toNat:=by rw[← Nat.pow_mul,Nat.mul_comm,Nat.pow_mul]
  rw[e1,e2]
  obtain⟨y,hy,hy2,hy0⟩:=h2
  rcases List.mem_cons.1 hy with rfl|hy
  ·refine mul_lt_left (Nat.pow_lt_pow_left ?_ (by omega)) ih0 (Nat.two_pow_pos _)
   unfold hiL
   rw[if_neg hy2]
   exact hx.lt
  ·have ih:=up_lt_pow n f l hl ⟨y,hy,hy2,hy0⟩
   exact mul_lt_right (Nat.pow_le_pow_left hh _) ih (Nat.pow_pos (Nat.two_pow_pos _))
theorem negT_log{n:Nat}{f:Int→Nat}{l:List (Int×Int)}(h:∀ x∈l,LogAt n x.1 (f x.1)):∀ x∈negT l,LogAt n x.1 (f x.1):=by
 intro x hx
 obtain⟨y,hy,rfl⟩:=List.mem_map.1 hx
 exact h y hy
theorem low_sign(n:Nat)(f:Int→Nat)(l:List (Int×Int))(h:∀ x∈l,LogAt n x.1 (f x.1))(h0:∀ x∈l,x.2≠0)(hne:l≠[])(hd:(l.map Prod.fst).Nodup)(hlow:hiS f (negT l)≤loS f l):
  upT (negT l)<upT l:=by
 have hn:∀ x∈negT l,LogAt n x.1 (f x.1):=negT_log h
 have c1:=up_le_pow n f (negT l) hn
 have c2:=pow_le_up n f l h
 have c3:2^hiS f (negT l)≤2^loS f l:=Nat.pow_le_pow_right (by decide) hlow
 have key:upT (negT l)^(2^n)<upT l^(2^n)→upT (negT l)<upT l:=fun hk=>(Nat.pow_lt_pow_iff_left (Nat.ne_of_gt (Nat.two_pow_pos n))).1 hk
 by_cases hodd:∃ x∈l,x.1≠2
 ·obtain⟨x,hx,hx2⟩:=hodd
  have hx0:=h0 x hx
  by_cases hp:0<x.2
  ·have:=pow_lt_up n f l h ⟨x,hx,hx2,hp⟩
   exact key (by omega)
  ·have:=up_lt_pow n f (negT l) hn ⟨(x.1,-x.2),List.mem_map.2 ⟨x,hx,rfl⟩,hx2,by show 0 < -x.2;omega⟩
   exact key (by omega)
 ·have h2:∀ x∈l,x.1=2:=fun x hx=>Classical.byContradiction fun hh=>hodd ⟨x,hx,hh⟩
  match l,hne,hd,h2,h0,hlow with
  | [x],_,_,h2,h0,hlow =>
   have e:=h2 x List.mem_cons_self
   have hx0:=h0 x List.mem_cons_self
   have hf:=(h x List.mem_cons_self).two e
   have hpos:=Nat.two_pow_pos n
   simp only[negT,List.map_cons,List.map_nil,hiS,loS,hiL,if_pos e,upT,Nat.add_zero,Nat.mul_one] at hlow ⊢
   rw[hf] at hlow
   have h3:(-x.2).toNat≤x.2.toNat:=Nat.le_of_mul_le_mul_right hlow hpos
   have h4:0<x.2:=by omega
   have h5:(-x.2).toNat=0:=by omega
   rw[h5,e]
   exact Nat.one_lt_two_pow (by omega)
  | x::y::r,_,hd,h2,_,_ =>
   exfalso
   have e1:=h2 x List.mem_cons_self
   have e2:=h2 y (List.mem_cons_of_mem _ List.mem_cons_self)
   simp only[List.map_cons,List.nodup_cons,List.mem_cons] at hd
   exact hd.1 (.inl (by rw[e1,e2]))
theorem sign_low(n:Nat)(f:Int→Nat)(l:List (Int×Int))(h:∀ x∈l,LogAt n x.1 (f x.1))(h0:∀ x∈l,x.2≠0)(hne:l≠[])(hd:(l.map Prod.fst).Nodup)(hlow:hiS f (negT l)≤loS f l):signT l=1:=by
 unfold signT
 rw[if_pos (low_sign n f l h h0 hne hd hlow)]
theorem signT_neg(l:List (Int×Int)):signT (negT l) = - signT l:=by
 unfold signT
 rw[negT_negT]
 by_cases h:upT (negT l)<upT l
 ·rw[if_pos h,if_neg (by omega),if_pos h]
 ·rw[if_neg h]
  by_cases h2:upT l<upT (negT l)
  ·rw[if_pos h2,if_neg h,if_pos h2];rfl
  ·rw[if_neg h2,if_neg h,if_neg h2];rfl
theorem sign_high(n:Nat)(f:Int→Nat)(l:List (Int×Int))(h:∀ x∈l,LogAt n x.1 (f x.1))(h0:∀ x∈l,x.2≠0)(hne:l≠[])(hd:(l.map Prod.fst).Nodup)(hhigh:hiS f l≤loS f (negT l)):signT l = -1:=by
 have:=sign_low n f (negT l) (negT_log h) (by
  intro x hx
  obtain⟨y,hy,rfl⟩:=List.mem_map.1 hx
  have:=h0 y hy
  show -y.2≠0
  omega) (by simpa [negT] using hne) (by
  have e:(negT l).map Prod.fst=l.map Prod.fst:=by simp[negT]
  rw[e];exact hd) (by rw[negT_negT];exact hhigh)
 rw[signT_neg] at this
 omega
def coefP (p:Int):List (Int×Int)→Int
 | []=>0
 | x::l=>(if x.1=p then x.2 else 0)+coefP p l
theorem dotI_add(a b:List Int):∀ (u:List Int) (pr:List Int) (g h:Int→Int),dotI u (pr.map fun p=>g p+h p)=dotI u (pr.map g)+dotI u (pr.map h)
 | [],_,_,_=>by simp[dotI]
 | _::_,[],_,_=>by simp[dotI]
 | c::u,p::pr,g,h=>by
  have ih:=dotI_add a b u pr g h
  simp only[List.map_cons,dotI]
  rw[ih,Int.mul_add]
  omega
theorem dotI_none(f:Int→Int)(c q:Int):∀ pr:List Int,q ∉ pr→dotI (pr.map f) (pr.map fun p=>if q=p then c else 0)=0
 | [],_=>by simp[dotI]
 | p::pr,h=>by
  simp only[List.mem_cons,not_or] at h
  simp only[List.map_cons,dotI]
  rw[if_neg h.1,dotI_none f c q pr h.2];simp
theorem dotI_at(f:Int→Int)(c q:Int):∀ pr:List Int,pr.Nodup→q∈pr→dotI (pr.map f) (pr.map fun p=>if q=p then c else 0)=c*f q
 | [],_,h=>by simp at h
 | p::pr,hd,h=>by
  simp only[List.nodup_cons] at hd
  simp only[List.map_cons,dotI]
  by_cases e:q=p
  ·rw[if_pos e,e,dotI_none f c p pr hd.1,Int.mul_comm];omega
  ·rw[if_neg e,dotI_at f c q pr hd.2 (by simpa [e] using h)];omega
def sumT (f:Int→Nat):List (Int×Int)→Int
 | []=>0
 | x::l=>x.2*f x.1+sumT f l
theorem dotI_coef(f:Int→Nat)(pr:List Int)(hd:pr.Nodup):∀ l:List (Int×Int),(∀ x∈l,x.1∈pr)→dotI (pr.map fun p=>(f p:Int)) (pr.map fun p=>coefP p l)=sumT f l
 | [],_=>by
  simp only[coefP,sumT]
  have e:∀ u v:List Int,dotI u (v.map fun _=>0)=0:=by
   intro u
   induction u with
   | nil=>intro v;cases v<;>rfl
   | cons a u ih =>
    intro v
    cases v with
    | nil=>rfl
    | cons b v=>simp only[List.map_cons,dotI];rw[ih];simp
  exact e _ _
 | x::l,h=>by
  have ih:=dotI_coef f pr hd l fun y hy=>h y (List.mem_cons_of_mem _ hy)
  simp only[coefP,sumT]
  rw[dotI_add [] [],ih,dotI_at _ _ _ pr hd (h x List.mem_cons_self)]
theorem coefP_none(p:Int):∀ l:List (Int×Int),p ∉ l.map Prod.fst→coefP p l=0
 | [],_=>rfl
 | x::l,h=>by
  simp only[List.map_cons,List.mem_cons,not_or] at h
  rw[coefP,if_neg (fun e=>h.1 e.symm),coefP_none p l h.2];rfl
theorem coefP_mem:∀ l:List (Int×Int),(l.map Prod.fst).Nodup→∀ x∈l,coefP x.1 l=x.2
 | [],_,_,h=>by cases h
 | y::l,hd,x,h=>by
  simp only[List.map_cons,List.nodup_cons] at hd
  rcases List.mem_cons.1 h with rfl|h
  ·rw[coefP,if_pos rfl,coefP_none _ l hd.1];omega
  ·rw[coefP,if_neg (fun e=>hd.1 (by rw[e];exact List.mem_map.2 ⟨x,h,rfl⟩)),coefP_mem l hd.2 x h];omega
theorem coefP_le(K:Nat)(l:List (Int×Int))(hd:(l.map Prod.fst).Nodup)(hK:∀ x∈l,x.2.natAbs≤K)(p:Int):(coefP p l).natAbs≤K:=by
 by_cases h:p∈l.map Prod.fst
 ·obtain⟨x,hx,rfl⟩:=List.mem_map.1 h
  rw[coefP_mem l hd x hx];exact hK x hx
 ·rw[coefP_none p l h];simp
theorem hiS_le(f:Int→Nat)(K:Nat):∀ l:List (Int×Int),(∀ x∈l,x.2.natAbs≤K)→hiS f l≤loS f l+l.length*K
 | [],_=>by simp[hiS,loS]
 | x::l,h=>by
  have ih:=hiS_le f K l fun y hy=>h y (List.mem_cons_of_mem _ hy)
  have hx:=h x List.mem_cons_self
  have e:hiL f x.1≤f x.1+1:=by unfold hiL;split<;>omega
  have e2:x.2.toNat*hiL f x.1≤x.2.toNat*(f x.1+1):=Nat.mul_le_mul_left _ e
  rw[Nat.mul_add] at e2
  rw[hiS,loS,List.length_cons,Nat.add_mul]
  omega
theorem sumT_eq(f:Int→Nat):∀ l:List (Int×Int),sumT f l=(loS f l:Int)-(loS f (negT l):Int)
 | []=>rfl
 | x::l=>by
  have ih:=sumT_eq f l
  have e:negT (x::l)=(x.1,-x.2)::negT l:=rfl
  rw[sumT,ih,e,loS,loS]
  rw[Int.natCast_add,Int.natCast_add,Int.natCast_mul,Int.natCast_mul]
  have h:x.2=(x.2.toNat:Int)-((-x.2).toNat:Int):=by omega
  generalize (x.2.toNat:Int)=a at *
  generalize ((-x.2).toNat:Int)=b at *
  rw[h]
  grind
theorem ends_decide{a d:Int}{pr:List Int}{f:Int→Nat}{U V:List (List Int)}{K S:Nat}(hc:certOk a (pr.map fun p=>(f p:Int)) U V d K S=true)(hp:pr.Nodup)(l:List (Int×Int))(hl:l.length*K≤S)(hne:l≠[])
  (hm:∀ x∈l,x.1∈pr∧x.2≠0∧x.2.natAbs≤K) (hd:(l.map Prod.fst).Nodup):hiS f (negT l)≤loS f l∨hiS f l≤loS f (negT l):=by
 have h1:=hiS_le f K l fun x hx=>(hm x hx).2.2
 have h2:=hiS_le f K (negT l) (by
  intro x hx
  obtain⟨y,hy,rfl⟩:=List.mem_map.1 hx
  have:=(hm y hy).2.2
  show (-y.2).natAbs≤K
  omega)
 have e:(negT l).length=l.length:=by simp[negT]
 rw[e] at h2
 have h3:=sumT_eq f l
 by_cases hT:(sumT f l).natAbs<S
 ·exfalso
  rw[← dotI_coef f pr hp l fun x hx=>(hm x hx).1] at hT
  have h4:=cert_zero hc (pr.map fun p=>coefP p l) (by simp) (by
   intro x hx
   obtain⟨p,_,rfl⟩:=List.mem_map.1 hx
   exact coefP_le K l hd (fun y hy=>(hm y hy).2.2) p) hT
  match l,hne with
  | x::r,_ =>
   have h5:=h4 _ (List.mem_map.2 ⟨x.1,(hm x List.mem_cons_self).1,rfl⟩)
   rw[coefP_mem _ hd x List.mem_cons_self] at h5
   exact(hm x List.mem_cons_self).2.1 h5
 ·omega
def certL:List Int:=[179769313486231590772930519078902473361797697894230657273430081157732675805500963132708477322407536021120113879871393357658789768814416622492847430639474124377767893424865485276302219601246094119453082952085005768838150682342462881473913110540827237163350510684586298239947245938479716304835356329624224137216,284927620656063089346731796384423062894173922742544388268143673752537756183546571537032060353371466816773127126641744722713352439279873718317761842880439823388246733129821933154999969794940367169528507713597703293501225656468836512330451109106556546484957172329017475735990380315252547391823925065085415830706,417411419582294732896156489886154238448013320157255640262591015340590871398055171674354685851436277043969488387805834784269416499993679630854470083136767565961762416444355884854643698642680661331046329726609798457044907851814692689997919935740891485193992980213442174017676677705033790300799565328174789721477,504676267050488686437106225422580597666894180115835423443227083307798182118129470961836692572602004275197053008847790122226159407050037386686227374490996006831065115100048654528796805287857493370208467706711144940390867662095296958256666553836865344662997681178618211252555414200909783814338893188237609625780,621899647134989863023931440843230302890983592943748869067988172264563165309608343386292530753941856327296297447054373896510077744639892806611394391743834589735893855764598242929310750820193556622274206181954361442867402987237247717098957447016989915817775870019501087911877572648074267091007255239964369023968,665225507727408465455298695894691710776360314087386563812869573730968267223165639273012984180830913649657093046906068992579944353826624953775464535759564037586356204133016200974813196209296864512605219833214582093815415417608006173877679388939375373503941628536552970450384072436140060704944322076520073283839]
def certU:List (List Int):=[[1361033472052420067100991309064931182091716853391540550899091113545676748165654069454734507830540625923066749738613742662526501494649565328672781710912470855,2157187015429401542138602315378835738079865318741913695197763694877679196962452355322909935492129080345135728398755778866915216677702864904886518349498144093,3160221856840607851781685108452959817026979136557082784519095198183545416828782748691856911460833185893891199012493182590421586823167653542796686423181411803,3820904016851512035743762372109566630477041885378486680143976467669200300212202542157276498189701081899028256409122481989077119745557940859571796331901780602,4708402227241844230881350710329385429292965180311929874646927949603148181156687490795565250855988629463347595457426767248645121403373850130316622376205655824,5036422317702249347264984242308634347603162440235819245412201338095351364705523284785619822633893970185542775747311911336783041820236677902723153542003541995],
 [299687973565947336953693908348658651332127021025370730890883623972659747075648952750207292919729408951165823130818603758290601433328042680561826125489066428,474994200019139640690896719015381054735292729699790408945830646826654284457084852625941217336849063751168404185314953447875618807762968794960545658399964795,695853925522634307249243517247788056805708280722354982344522670436784936810433857855919843198532036588375876439367016064304325129116049564645826288286436995,841330507671831406218103970697802099080070115711533135025373126392723083358858942563189157022256615979955037365105244659930907228808843221236499661374110289,1036750051479376748850033988793626597154995220661079736838726668451637290619206291200505783075082688000877676034076233903503798073310428799011686117489740735,1108977280432649241595140457724586490268455016437124571879230895310093956060594635296497046358777904624265570982229960398488559448522718359131628436452776618],
 [2001432095227681370883033031250657280124239008502396240436193329269779899751073734437881335263033118934661407649401662184445142860843476241971244864603027187,3172194818675649062031549948976346458446291575480633127138527180430090144149945657870703384176547217957998590193298519253946520383353142275844076215046404066,4647181411918432184657996063106137228541057445042859272797028758732513247711022952874593278003645411586711998681909461184937906440067320029532798507864848774,5618730243701494716647491390234016366368147732801005815257985401286419595231562467358169747618992550500502402060613155528580022043540105943291290066113212642,6923817472786135026020292681272359069572685393380617174853881444661977508302607758245986734774019457876979478431489431680461110991886850855640535885324347296,7406178818342856776067456999577349708314416427421774025318657928833991150289316239750934511444397348343774950016253631819156198089215566095848780701490864144],
 [528536423608438686412855271308878199418637088432614320111589911024224382198177128949494362669026076740489188478845726431331723513448155828996706397443325180,837710411684647310522312564104097923139117177113334471362723484405395424151008043983617035281865417395962957088666166267423693251318731944589703713618244329,1227223571147721963246630617648243717815284933494361643201768985968400112439714151460557394407565771139456530795453357502363423731760793034538519393449417404,1483789330303873215968878480452065504812046379488041405674753539793795422454494893163083848604039861079831537330639296756576330493295598940741832154454008688,1828435615432509255958100752235191297210724831090028852837000190432020360373150501910418670178265213952829967280722348250891518419506460528213470146761147669,1955817174404911741025196141353996465572258277146385975044836535532311654150798060211842806764077658974214099154631403207719281988005843100572202176183955081],
 [-1468711569869691212917947732134083722669835323809775214024289413578456753408037268869249086956462231433613497000907220577351639694601234134310649204034172316,-2327852762618760886438615551826346136370330168494265847894449738559028087832799593039841031943095790346604355658488125946578561954780542160298345901268352557,-3410242657366559293362990450499318662931329652440687467996352748484304130112546146565531321508257651827946757887834523977466162302035935620424198790339117028,-4123194654756628344277387666377040541457073401299737549360184284561605431593927292627723203544564083235736204424728469325429173003124213574712357752737593408,-5080907243465631775491331725106607667567794020555851403113895506647993464455619343303375350433823317991140303009422864311178241460123997725934828520026953170,-5434878627639161137069877451178110586761807883549011422834890840123801581219167459321135220817687924522379993148257513492372263375648300907571638870552930820],
 [-2527278727899951042357277652887687714676139814654455825895183801797394312577171470996587787488447973546590744938596754242248050652665729495409064860168750388,-4005642012591688830853788306767450225437525695850649207367482469960977507820045796608400918880715182390339297186644147711819811945556751576743803637464260210,-5868159481922089932185961686356109783421000151793657433855863935794100273872111461436697788866984813598223636272238364084392763747068349791942404099818116664,-7094968376181407917698486220318039050815038790087114445294460660285453776174777870811938078891803417542019334178004801170201148860672020225345222745338937759,-8742947940406537175524478993752549231321711125631551583381469936189250544112233396909737085879577827848253228263908699479854100689968661105092076296067226517,-9352042583534072783038683109624319367784842669410329692573031045141955386391775295867783423242100705425423420660519481116735025587912157359844666391581864370]]
def certV:List (List Int):=[[-5056625427619646027375557688934,22492767048728521515228088672644,100757843318868131663255231251409,-109175424216025810518427626349458,43791622722594357708666376464250,31456010246780842523074201168758],
 [14843321736870989170892935211302,-1566413707272055504716434875294,-13231873144781301898553196621410,-4473938268507226690064737724278,-7234649816335129238870443013471,597916375160099280812978039558],
 [-10106195131634014064109565408074,-23752526617964760938273316614011,-2161618493810056733233408947394,11217398622667791280982723293654,-1919025075220832533891098335435,-6509868020063796828750396523277],
 [6851462341036060952856831869449,6038656074418965050194601037329,-11645716143813286921558515426769,2256681498008609696986867869759,5109170126994287454266492989097,-7313988198921797883712129588856],
 [-20280857652371422586076982416269,3240353442599273281533504304323,-6207198472621478050629739916295,10933570427373787624652298476831,-12444462319387663796445073593709,-5934842575408006771328159897859],
 [15112292982976400489100645344947,1886037157824657007738630660331,-5566814279214676496689364407767,12447496499081282177953624596476,226561372143848006543391518164,6425156145734365554949928231685]]
theorem cert_ok:certOk (2^1024) certL certU certV 1 (2^100) (2^503)=true:=by decide +kernel
end Go.Proofs.YtnjedhgcfeoemaaGreatDoor.LN

namespace Go.Proofs.YtnjedhgcfeoemaaGreatDoor
def digIt (unit:Nat):Nat→Nat×Nat×Nat→Option (Nat×Nat×Nat)
 | 0,s=>some s
 | n+1,s=>(digStep unit s).bind (digIt unit n)
theorem digIt_snoc(unit:Nat):∀ (n:Nat) (s:Nat×Nat×Nat),digIt unit (n+1) s=(digIt unit n s).bind (digStep unit)
 | 0,s=>by simp[digIt]
 | n+1,s=>by
  show (digStep unit s).bind (digIt unit (n+1))=((digStep unit s).bind (digIt unit n)).bind (digStep unit)
  cases digStep unit s with
  | none=>rfl
  | some t=>exact digIt_snoc unit n t
theorem digs_it(p more:Nat):∀ n,digs p more n=digIt (2^more) n (p*2^(more-p.log2),p*2^(more-p.log2),p.log2)
 | 0=>rfl
 | n+1=>by rw[digIt_snoc,← digs_it p more n];rfl
theorem lgGo_it(unit:Nat):∀ (n lo hi out:Nat),LN.lgGo unit n lo hi out=(digIt unit n (lo,hi,out)).map fun s=>s.2.2
 | 0,_,_,_=>rfl
 | n+1,lo,hi,out=>by
  unfold LN.lgGo digIt digStep
  simp only
  split
  ·rw[lgGo_it unit n];rfl
  ·split
   ·rfl
   ·rw[lgGo_it unit n];rfl
theorem lg_digs(p n more:Nat):LN.lg p p.log2 n more=(digs p more n).map fun s=>s.2.2:=by
 rw[digs_it];exact lgGo_it _ _ _ _ _
structure Finer (u:Nat) (s t:Nat×Nat×Nat):Prop where
 lo:s.1*u≤t.1
 hi:t.2.1≤s.2.1*u
 out:t.2.2=s.2.2
 le:t.1≤t.2.1
theorem finer_step{unit u:Nat}(hu:0<u)(h0:0<unit){s t s':Nat×Nat×Nat}(h:Finer u s t)(hs:digStep unit s=some s'):∃ t',digStep (unit*u) t=some t'∧Finer u s' t':=by
 obtain⟨l,g,o⟩:=s
 obtain⟨l2,g2,o2⟩:=t
 obtain⟨hl,hg,ho,hle⟩:=h
 simp only at hl hg ho hle
 subst ho
 have q1:l*l/unit*u≤l2*l2/(unit*u):=by
  rw[Nat.le_div_iff_mul_le (Nat.mul_pos h0 hu)]
  have a:=Nat.div_mul_le_self (l*l) unit
  calc l*l/unit*u*(unit*u)=(l*l/unit*unit)*(u*u):=by ac_rfl
   _≤l*l*(u*u):=Nat.mul_le_mul_right _ a
   _=(l*u)*(l*u):=by ac_rfl
   _≤_:=Nat.mul_le_mul hl hl
 have q2:g2*g2/(unit*u)+1≤(g*g/unit+1)*u:=by
  rw[Nat.add_one_le_iff,Nat.div_lt_iff_lt_mul (Nat.mul_pos h0 hu)]
  have a:=Nat.lt_div_mul_add (a:=g*g) h0
  have b:g*g<(g*g/unit+1)*unit:=by rw[Nat.add_mul,Nat.one_mul];exact a
  calc g2*g2≤(g*u)*(g*u):=Nat.mul_le_mul hg hg
   _=g*g*(u*u):=by ac_rfl
   _<(g*g/unit+1)*unit*(u*u):=Nat.mul_lt_mul_of_pos_right b (Nat.mul_pos hu hu)
   _=_:=by ac_rfl
 have q3:l2*l2/(unit*u)≤g2*g2/(unit*u)+1:=Nat.le_succ_of_le (Nat.div_le_div_right (Nat.mul_le_mul hle hle))
 have e2:2*(unit*u)=2*unit*u:=by rw[Nat.mul_assoc]
 simp only[digStep] at hs ⊢
 generalize l*l/unit=A at *
 generalize g*g/unit+1=B at *
 generalize l2*l2/(unit*u)=A2 at *
 generalize g2*g2/(unit*u)+1=B2 at *
 by_cases h1:2*unit≤A
 ·rw[if_pos h1] at hs
  cases hs
  have h2:2*(unit*u)≤A2:=by rw[e2];exact Nat.le_trans (Nat.mul_le_mul_right _ h1) q1
  rw[if_pos h2]
  refine⟨_,rfl,?_,?_,rfl,by simp only;omega⟩
  ·show A/2*u≤A2/2
   rw[Nat.le_div_iff_mul_le (by decide)]
   calc A/2*u*2=A/2*2*u:=by ac_rfl
    _≤A*u:=Nat.mul_le_mul_right _ (Nat.div_mul_le_self _ _)
    _≤_:=q1
  ·show B2/2+1≤(B/2+1)*u
   have h3:B2/2<(B/2+1)*u:=by
    rw[Nat.div_lt_iff_lt_mul (by decide)]
    have h4:B+1≤(B/2+1)*2:=by omega
    have h5:(B+1)*u≤(B/2+1)*2*u:=Nat.mul_le_mul_right _ h4
    have h6:(B/2+1)*2*u=(B/2+1)*u*2:=by ac_rfl
    rw[Nat.add_mul] at h5
    omega
   exact h3
 ·rw[if_neg h1] at hs
  by_cases h2:2*unit≤B
  ·rw[if_pos h2] at hs;cases hs
  ·rw[if_neg h2] at hs
   cases hs
   have h3:B2<2*(unit*u):=by
    rw[e2]
    exact Nat.lt_of_le_of_lt q2 (Nat.mul_lt_mul_of_pos_right (by omega) hu)
   rw[if_neg (by omega),if_neg (by omega)]
   exact⟨_,rfl,q1,q2,rfl,q3⟩
theorem finer_it{unit u:Nat}(hu:0<u)(h0:0<unit):∀ (n:Nat) {s t s':Nat×Nat×Nat},Finer u s t→digIt unit n s=some s'→∃ t',digIt (unit*u) n t=some t'∧Finer u s' t'
 | 0,s,t,s',h,hs=>by cases hs;exact⟨t,rfl,h⟩
 | n+1,s,t,s',h,hs=>by
  obtain⟨m,h1,h2⟩:=Option.bind_eq_some_iff.1 hs
  obtain⟨m',h3,h4⟩:=finer_step hu h0 h h1
  obtain⟨t',h5,h6⟩:=finer_it hu h0 n h4 h2
  exact⟨t',by show (digStep (unit*u) t).bind _=_;rw[h3];exact h5,h6⟩
theorem digs_more{p more m2 n:Nat}(hp:p.log2≤more)(hm:more≤m2){s:Nat×Nat×Nat}(h:digs p more n=some s):∃ t,digs p m2 n=some t∧t.2.2=s.2.2:=by
 rw[digs_it] at h ⊢
 have e:(2:Nat)^m2=2^more*2^(m2-more):=by rw[← Nat.pow_add];congr 1;omega
 have e2:p*2^(m2-p.log2)=p*2^(more-p.log2)*2^(m2-more):=by rw[Nat.mul_assoc,← Nat.pow_add];congr 2;omega
 obtain⟨t,h1,h2⟩:=finer_it (Nat.two_pow_pos (m2-more)) (Nat.two_pow_pos more) n (s:=(p*2^(more-p.log2),p*2^(more-p.log2),p.log2)) (t:=(p*2^(m2-p.log2),p*2^(m2-p.log2),p.log2)) ⟨by rw[e2];exact Nat.le_refl _,by rw[e2];exact Nat.le_refl _,rfl,Nat.le_refl _⟩ h
 rw[e]
 exact⟨t,h1,h2.out⟩
theorem digs_fewer{p more:Nat}:∀ {n m:Nat},m≤n→(digs p more n).isSome=true→(digs p more m).isSome=true
 | 0,m,h,hs=>by rw[Nat.le_zero.1 h];exact hs
 | n+1,m,h,hs=>by
  rcases Nat.lt_or_eq_of_le h with h|h
  ·refine digs_fewer (Nat.lt_succ_iff.1 h) ?_
   cases hd:digs p more n with
   | none=>rw[digs,hd] at hs;cases hs
   | some s=>rfl
  ·rw[h];exact hs
theorem digs_some_of_lg{p n more:Nat}(h:(LN.lg p p.log2 n more).isSome=true):(digs p more n).isSome=true:=by
 rw[lg_digs] at h
 simpa using h
def oddP:List Nat:=[3,5,7,11,13,17,19,23,29,31,37,41,43,47,53,59,61,67,71,73,79,83,89,97]
theorem lg_all:oddP.all (fun p=>(LN.lg p p.log2 1056 1120).isSome)=true:=by decide +kernel
theorem oddP_log{p:Nat}(h:p∈oddP):p.log2≤6:=by
 have:∀ q∈oddP,q.log2≤6:=by decide
 exact this p h
theorem oddP_odd{p:Nat}(h:p∈oddP):p%2=1∧3≤p∧p≤97:=by
 have:∀ q∈oddP,q%2=1∧3≤q∧q≤97:=by decide
 exact this p h
theorem digs_ok{p n more:Nat}(hp:p∈oddP)(hn:n≤1056)(hm:1120≤more):(digs p more n).isSome=true:=by
 have h:=lg_all
 rw[List.all_eq_true] at h
 have h1:=digs_fewer (m:=n) hn (digs_some_of_lg (h p hp))
 have hl:=oddP_log hp
 obtain⟨s,hs⟩:=Option.isSome_iff_exists.1 h1
 obtain⟨t,ht,_⟩:=digs_more (m2:=more) (by omega) (by omega) hs
 rw[ht];rfl
theorem isLg_one{p N a b:Nat}(h1:IsLg p N a)(h2:IsLg p N b):a=b:=by
 have e1:2^a<2^(b+1):=Nat.lt_of_le_of_lt h1.1 h2.2
 have e2:2^b<2^(a+1):=Nat.lt_of_le_of_lt h2.1 h1.2
 have f1:=(Nat.pow_lt_pow_iff_right (by decide)).1 e1
 have f2:=(Nat.pow_lt_pow_iff_right (by decide)).1 e2
 omega
def lgN (p:Int) (n:Nat):Nat:=if p=2 then 2^n else match digs p.toNat 1120 n with
 | some s=>s.2.2
 | none=>0
theorem digs_lgN{p n more:Nat}(hp:p∈oddP)(hn:n≤1056)(hm:6≤more){s:Nat×Nat×Nat}(h:digs p more n=some s):s.2.2=lgN p n:=by
 have hl:=oddP_log hp
 have ho:=oddP_odd hp
 have h1:=(digs_inv p more (by omega) (by omega) n s h).lg
 obtain⟨t,ht⟩:=Option.isSome_iff_exists.1 (digs_ok hp hn (Nat.le_refl 1120))
 have h2:=(digs_inv p 1120 (by omega) (by omega) n t ht).lg
 have e:lgN p n=t.2.2:=by
  unfold lgN
  rw[if_neg (by omega),Int.toNat_natCast,ht]
 rw[e]
 exact isLg_one h1 h2
theorem lgN_is{p n:Nat}(hp:p∈oddP)(hn:n≤1056):IsLg p (2^n) (lgN p n):=by
 have hl:=oddP_log hp
 have ho:=oddP_odd hp
 obtain⟨t,ht⟩:=Option.isSome_iff_exists.1 (digs_ok hp hn (Nat.le_refl 1120))
 have h2:=(digs_inv p 1120 (by omega) (by omega) n t ht).lg
 rw[digs_lgN hp hn (by decide) ht] at h2
 exact h2
theorem lgN_two(n:Nat):lgN 2 n=2^n:=by unfold lgN;rw[if_pos rfl]
theorem lgN_le{p n:Nat}(hp:p=2∨p∈oddP)(hn:n≤1056):lgN p n<7*2^n:=by
 rcases hp with rfl|hp
 ·have:=Nat.two_pow_pos n
  rw[show ((2:Nat):Int)=2 from rfl,lgN_two];omega
 ·have ho:=oddP_odd hp
  have h:=(lgN_is hp hn).1
  have h1:p^(2^n)<(2^7)^(2^n):=Nat.pow_lt_pow_left (by omega) (Nat.ne_of_gt (Nat.two_pow_pos n))
  rw[← Nat.pow_mul] at h1
  have h2:=Nat.lt_of_le_of_lt h h1
  exact(Nat.pow_lt_pow_iff_right (by decide)).1 h2
theorem pow_odd(p:Nat)(h:p%2=1)(m:Nat):p^m%2=1:=by
 induction m with
 | zero=>rfl
 | succ m ih=>rw[Nat.pow_succ,Nat.mul_mod,ih,h]
theorem lgN_at{p n:Nat}(hp:p=2∨p∈oddP)(hn:n≤1056):LN.LogAt n (p:Int) (lgN p n):=by
 rcases hp with rfl|hp
 ·rw[show ((2:Nat):Int)=2 from rfl,lgN_two]
  exact⟨Nat.le_refl _,Nat.pow_lt_pow_right (by decide) (by omega),fun _=>rfl,fun h=>absurd rfl h⟩
 ·have ho:=oddP_odd hp
  obtain⟨h1,h2⟩:=lgN_is hp hn
  refine⟨by rw[Int.toNat_natCast];exact h1,by rw[Int.toNat_natCast];exact h2,fun h=>by omega,fun _=>?_⟩
  rw[Int.toNat_natCast]
  refine Nat.lt_of_le_of_ne h1 fun e=>?_
  have h3:=pow_odd p ho.1 (2^n)
  rw[← e] at h3
  by_cases h0:lgN p n=0
  ·rw[h0] at h2
   have:p^1≤p^(2^n):=Nat.pow_le_pow_right (by omega) (Nat.two_pow_pos n)
   rw[Nat.pow_one] at this
   omega
  ·obtain⟨k,hk⟩:=Nat.exists_eq_succ_of_ne_zero h0
   rw[hk,Nat.pow_succ] at h3
   omega
end Go.Proofs.YtnjedhgcfeoemaaGreatDoor

namespace Go.Proofs.YtnjedhgcfeoemaaGreatDoor
open Go.RowKit
theorem dec_two:dec 2=⟨#[50]⟩:=by
 have:(dec 2).data = #[50]:=by decide +kernel
 exact ByteArray.ext this
theorem num_two{x K:Nat}(h:x<2^K)(hK:K<100000):Num x:=by
 unfold Num
 have h1:(dec x).size≤K+1:=by
  rw[size_lt _ _ (by omega)]
  exact Nat.lt_of_lt_of_le h (Nat.le_trans (Nat.pow_le_pow_left (by decide) K) (Nat.pow_le_pow_right (by decide) (by omega)))
 omega
theorem wpow2(w:World)(n:Nat)(hn:n≤4000)(L:Laid w):Gives Tryz.prog 18 #[.string ⟨#[50]⟩,.int .i64 n] w (.tuple #[.string (dec (2^n)),.int .i64 0]):=by
 unfold Gives
 have hs:=split_any w 2
 rw[show itx 2=dec 2 by exact itx_nat 2,show ((2:Int).natAbs)=2 from rfl,dec_two,decide_eq_false (by decide)] at hs
 have Hs:=hd_ hs
 have Hp:Hid (∀ W,Below w.heap.size w W→Gives Tryz.prog 69 #[.string ⟨#[50]⟩,.int .i64 n] W (.tuple #[.string (dec (2^n)),.int .i64 0])):=fun W hW=>by
  have:=power2_any W n hn (L.below hW)
  rw[dec_two] at this
  exact this
 have hN:Num (2^n):=num_two (K:=n+1) (Nat.pow_lt_pow_right (by decide) (by omega)) (by omega)
 have Hj:Hid (∀ W,Gives Tryz.prog 70 #[.bool false,.string (dec (2^n))] W (.string (dec (2^n)))):=fun W=>by
  have:=join_any W false (2^n) hN
  rw[show jz false (2^n)=((2^n:Nat):Int) from rfl,itx_nat] at this
  exact this
 clear hs L hN
 generalize dec (2^n)=s at *
 have h0:¬ (n:Int)<0:=by omega
 have h1:¬ (4000:Int)<n:=by omega
 have hsz:((⟨#[50]⟩:ByteArray).size:Int)=1:=rfl
 go_enter Tryz.func18,Tryz.ntmps18
 go_wp2_with fail
 refine cm_ Hs.out ?_
 rintro e w1 ⟨rfl,hb⟩
 have B1:=hd_ hb
 clear hb Hs
 go_wp2_with fail
 refine cm_ (Hp.out _ B1.out) ?_
 rintro e w2 ⟨rfl,hb⟩
 have B2:=hd_ (B1.out.trans (hb.mono B1.out.size))
 clear hb Hp B1
 go_wp2_with fail
 refine cm_ (Hj.out _) ?_
 rintro e w3 ⟨rfl,hb⟩
 have B3:=hd_ (B2.out.trans (hb.mono B2.out.size))
 clear hb Hj B2
 go_wp2_with fail
 go_ret2
 exact⟨rfl,B3.out⟩
theorem addD(w:World)(a b K:Nat)(hK:K<90000)(ha:a<2^K)(hb:b<2^K)(L:Laid w):Gives Tryz.prog 20 #[.string (dec a),.string (dec b)] w (.string (dec (a+b))):=by
 have hn:=num_two ha (by omega)
 have hm:=num_two hb (by omega)
 have hs:Num (a+b):=num_two (K:=K+1) (by rw[Nat.pow_succ];omega) (by omega)
 have:=addz_any w (a:Int) (b:Int) hn hm hs L
 rw[← Int.natCast_add,itx_nat,itx_nat,itx_nat] at this
 exact this
theorem mulD(w:World)(a b K:Nat)(hK:K<40000)(ha:a<2^K)(hb:b<2^K)(L:Laid w):Gives Tryz.prog 115 #[.string (dec a),.string (dec b)] w (.string (dec (a*b))):=by
 have hn:=num_two ha (by omega)
 have hm:=num_two hb (by omega)
 have hs:ZNum ((a:Int)*b):=num_two (K:=K+K) (by rw[← Int.natCast_mul,Int.natAbs_natCast,Nat.pow_add];exact Nat.mul_lt_mul'' ha hb) (by omega)
 have:=mulz_any w (a:Int) (b:Int) hn hm hs L
 rw[← Int.natCast_mul,itx_nat,itx_nat,itx_nat] at this
 exact this
theorem divD(w:World)(a b K:Nat)(hK:K<90000)(ha:a<2^K)(hb:b<2^K)(h0:0<b)(L:Laid w):Gives Tryz.prog 163 #[.string (dec a),.string (dec b)] w (.tuple #[.string (dec (a/b)),.string (dec (a%b)),.int .i64 0]):=by
 have hn:=num_two ha (by omega)
 have hm:=num_two hb (by omega)
 have hs:Num ((a:Int).natAbs+1):=num_two (K:=K+1) (by rw[Int.natAbs_natCast,Nat.pow_succ];omega) (by omega)
 have:=divmodz_any w (a:Int) b hn hm h0 hs L
 rw[(ediv_nat a b).1,(ediv_nat a b).2,itx_nat,itx_nat,itx_nat] at this
 exact this
theorem compD(_w:World)(a b K:Nat)(hK:K<90000)(ha:a<2^K)(hb:b<2^K):∃ c:Int,(c = -1∨c=0∨c=1)∧(0≤c↔b≤a)∧∀ W,Gives Tryz.prog 114 #[.string (dec a),.string (dec b)] W (.int .i64 c):=by
 have hn:=num_two ha (by omega)
 have hm:=num_two hb (by omega)
 refine⟨cmpZ a b,?_,?_,fun W=>?_⟩
 ·unfold cmpZ;split
  ·exact .inl rfl
  ·split
   ·exact .inr (.inl rfl)
   ·exact .inr (.inr rfl)
 ·unfold cmpZ;split
  ·constructor<;>omega
  ·split
   ·constructor<;>omega
   ·constructor<;>omega
 ·have:=comparez_any W (a:Int) (b:Int) hn hm
  rw[itx_nat,itx_nat] at this
  exact this
structure DigB (more n:Nat) (s:Nat×Nat×Nat):Prop where
 lo:s.1<2*2^more
 hi:s.2.1<2*2^more
 out:s.2.2<2^(n+3)
theorem log2_le(p:Nat)(hp:2≤p)(hp2:p≤97):p.log2≤6:=by
 have:=(Nat.log2_lt (n:=p) (k:=7) (by omega)).2 (by omega)
 omega
theorem digs_b(p more:Nat)(hp:2≤p)(hp2:p≤97)(hm:64≤more):∀ n s,digs p more n=some s→DigB more n s
 | 0,s,h=>by
  simp only[digs,Option.some.injEq] at h
  subst h
  have h1:p<2^(p.log2+1):=Nat.lt_log2_self
  have h2:=log2_le p hp hp2
  have h3:p*2^(more-p.log2)<2^(p.log2+1)*2^(more-p.log2):=Nat.mul_lt_mul_of_pos_right h1 (Nat.two_pow_pos _)
  rw[← Nat.pow_add,show p.log2+1+(more-p.log2)=1+more by omega,Nat.pow_add,Nat.pow_one] at h3
  exact⟨h3,h3,by show p.log2<2^3;omega⟩
 | n+1,s,h=>by
  simp only[digs] at h
  obtain⟨t,ht,hs⟩:=Option.bind_eq_some_iff.1 h
  obtain⟨f1,f2,f3⟩:=digs_b p more hp hp2 hm n t ht
  obtain⟨l,g,o⟩:=t
  simp only at f1 f2 f3
  simp only[digStep] at hs
  have hu:=Nat.two_pow_pos more
  have hu2:2^1≤2^more:=Nat.pow_le_pow_right (by decide) (by omega)
  obtain⟨u,eu⟩:∃ u,2^more=u:=⟨_,rfl⟩
  rw[eu] at hu hu2 f1 f2 hs
  have q1:l*l/u<4*u:=by
   rw[Nat.div_lt_iff_lt_mul hu]
   calc l*l<2*u*(2*u):=Nat.mul_lt_mul'' f1 f1
    _=4*u*u:=by grind
  have q2:g*g/u+1≤4*u-3:=by
   have h1:g*g≤(2*u-1)*(2*u-1):=Nat.mul_le_mul (by omega) (by omega)
   have h2:g*g/u<4*u-3:=by
    rw[Nat.div_lt_iff_lt_mul hu]
    obtain⟨v,rfl⟩:∃ v,u=v+1:=⟨u-1,by omega⟩
    have e1:2*(v+1)-1=2*v+1:=by omega
    have e2:4*(v+1)-3=4*v+1:=by omega
    rw[e1] at h1
    rw[e2]
    have e3:(2*v+1)*(2*v+1)=4*(v*v)+4*v+1:=by grind
    have e4:(4*v+1)*(v+1)=4*(v*v)+5*v+1:=by grind
    rw[e3] at h1
    rw[e4]
    omega
   omega
  have eo:2^(n+1+3)=2*2^(n+3):=by rw[show n+1+3=n+3+1 by omega,Nat.pow_succ];omega
  by_cases h1:2*u≤l*l/u
  ·rw[if_pos h1] at hs
   cases hs
   exact⟨by simp only;rw[eu];omega,by simp only;rw[eu];omega,by simp only;omega⟩
  ·rw[if_neg h1] at hs
   by_cases h2:2*u≤g*g/u+1
   ·rw[if_pos h2] at hs;cases hs
   ·rw[if_neg h2] at hs
    cases hs
    exact⟨by simp only;rw[eu];omega,by simp only;rw[eu];omega,by simp only;omega⟩
def digitsV (p n more:Nat):Value:=match digs p more n with
 | some s => .tuple #[.string (dec s.2.2),.bool true]
 | none => .tuple #[.string ⟨#[]⟩,.bool false]
theorem digs_none{p more j n:Nat}(h:digs p more j=none)(hj:j≤n):digs p more n=none:=by
 cases hd:digs p more n with
 | none=>rfl
 | some s =>
  have:=digs_fewer (m:=j) hj (show (digs p more n).isSome=true by rw[hd];rfl)
  rw[h] at this
  cases this
theorem sdigits_any(w:World)(p n more:Nat)(hp:2≤p)(hp2:p≤97)(hn:n≤4000)(hm:64≤more)(hm2:more≤4000)(L:Laid w):
  Gives Tryz.prog 242 #[.int .i64 p,.int .i64 n,.int .i64 more] w (digitsV p n more):=by
 unfold Gives
 have hl:=log2_le p hp hp2
 have hln:=hd_ (Tryz.bits_Len p w (by omega) (by omega))
 rw[show ((p:Nat):Int).toNat=p from rfl,bitLen_log p (by omega) hp2] at hln
 have hw1:IntKind.i64.wrap (((p.log2+1:Nat):Int)-1)=(p.log2:Int):=by rw[show ((p.log2+1:Nat):Int)-1=(p.log2:Int) by omega];exact iw_ _ (by omega)
 have hw2:IntKind.u64.wrap (p:Int)=p:=IntWalk.u64_in _ (by omega)
 have hw3:IntKind.i64.wrap ((more:Int)-(p.log2:Int))=((more-p.log2:Nat):Int):=by rw[show (more:Int)-(p.log2:Int)=((more-p.log2:Nat):Int) by omega];exact iw_ _ (by omega)
 have HL:=hd_ L
 clear L
 obtain⟨K,hK⟩:∃ K:Nat,K=4050:=⟨_,rfl⟩
 have HK:=hd_ hK
 have Hm2:=hd_ hm2
 have Hn:=hd_ hn
 have Hdb:Hid (∀ j lo hi o,digs p more j=some (lo,hi,o)→lo<2*2^more∧hi<2*2^more∧o<2^(j+3)):=fun j lo hi o h=>by
  have:=digs_b p more hp hp2 hm j _ h
  exact⟨this.lo,this.hi,this.out⟩
 have Hnext:Hid (∀ j s,digs p more j=some s→digs p more (j+1)=digStep (2^more) s):=fun j s h=>by
  simp only[digs,h,Option.bind_some]
 have Hu0:Hid (0<2^more):=Nat.two_pow_pos more
 have Hu:Hid (2^more<2^K):=Nat.pow_lt_pow_right (by decide) (by omega)
 have Huu:Hid (2^more+2^more=2*2^more):=(Nat.two_mul _).symm
 have Hu2:Hid (2*2^more<2^K):=by
  show _<_
  rw[Nat.mul_comm,← Nat.pow_succ]
  exact Nat.pow_lt_pow_right (by decide) (by omega)
 have Hp2:Hid (∀ W,Below w.heap.size w W→Gives Tryz.prog 18 #[.string ⟨#[50]⟩,.int .i64 more] W (.tuple #[.string (dec (2^more)),.int .i64 0])):=fun W hW=>wpow2 W more hm2 (HL.out.below hW)
 have Hp3:Hid (∀ W,Below w.heap.size w W→Gives Tryz.prog 18 #[.string ⟨#[50]⟩,.int .i64 (more-p.log2:Nat)] W (.tuple #[.string (dec (2^(more-p.log2))),.int .i64 0])):=fun W hW=>wpow2 W (more-p.log2) (by omega) (HL.out.below hW)
 have H0:Hid (digs p more 0=some (p*2^(more-p.log2),p*2^(more-p.log2),p.log2)):=rfl
 have Hof1:Hid (∀ W,Below w.heap.size w W→Gives Tryz.prog 73 #[.int .i64 p] W (.string (dec p))):=fun W hW=>by
  have:=ofz_any W p (by omega) (by omega) (HL.out.below hW)
  rw[itx_nat] at this;exact this
 have Hof2:Hid (∀ W,Below w.heap.size w W→Gives Tryz.prog 73 #[.int .i64 p.log2] W (.string (dec p.log2))):=fun W hW=>by
  have:=ofz_any W p.log2 (by omega) (by omega) (HL.out.below hW)
  rw[itx_nat] at this;exact this
 have Had1:Hid (∀ W,Below w.heap.size w W→Gives Tryz.prog 20 #[.string (dec (2^more)),.string (dec (2^more))] W (.string (dec (2*2^more)))):=fun W hW=>by
  have:=addD W (2^more) (2^more) K (by have:=HK.out;omega) Hu.out Hu.out (HL.out.below hW)
  rw[Huu.out] at this;exact this
 have Hmu1:Hid (∀ W,Below w.heap.size w W→Gives Tryz.prog 115 #[.string (dec p),.string (dec (2^(more-p.log2)))] W (.string (dec (p*2^(more-p.log2))))):=fun W hW =>
  mulD W p (2^(more-p.log2)) (K+K) (by have:=HK.out;omega) (Nat.lt_of_lt_of_le (show p<2^7 by omega) (Nat.pow_le_pow_right (by decide) (by have:=HK.out;omega))) (Nat.pow_lt_pow_right (by decide) (by omega)) (HL.out.below hW)
 have B0:=hd_ (Below.refl w.heap.size w)
 have hnn:(n:Int)≤4000:=by omega
 rw[show ((more-p.log2:Nat):Int)=(more:Int)-(p.log2:Int) by omega] at Hp3
 clear hp hp2 hK hw3
 have Hd1:=hd_ dec_one
 have Hd2:=hd_ dec_two
 generalize hlp:p.log2=lp at *
 clear hlp
 generalize 2^more=unit at *
 generalize hvv:digitsV p n more=vv at *
 have Hvv:=hd_ hvv
 clear hvv
 go_enter Tryz.func242,Tryz.ntmps242
 go_wp2_with fail
 refine cm_ hln.out ?_
 rintro e w1 ⟨rfl,rfl⟩
 clear hln
 go_wp2_with fail
 refine cm_ (Hp2.out _ B0.out) ?_
 rintro e w2 ⟨rfl,hb⟩
 have B2:=hd_ (B0.out.trans (hb.mono B0.out.size))
 clear hb B0
 go_wp2_with fail
 refine cm_ (Had1.out _ B2.out) ?_
 rintro e w3 ⟨rfl,hb⟩
 have B3:=hd_ (B2.out.trans (hb.mono B2.out.size))
 clear hb B2
 go_wp2_with fail
 refine cm_ (Hp3.out _ B3.out) ?_
 rintro e w4 ⟨rfl,hb⟩
 have B4:=hd_ (B3.out.trans (hb.mono B3.out.size))
 clear hb B3
 go_wp2_with fail
 refine cm_ (Hof1.out _ B4.out) ?_
 rintro e w5 ⟨rfl,hb⟩
 have B5:=hd_ (B4.out.trans (hb.mono B4.out.size))
 clear hb B4
 go_wp2_with fail
 refine cm_ (Hmu1.out _ B5.out) ?_
 rintro e w6 ⟨rfl,hb⟩
 have B6:=hd_ (B5.out.trans (hb.mono B5.out.size))
 clear hb B5
 go_wp2_with fail
 refine cm_ (Hof2.out _ B6.out) ?_
 rintro e w7 ⟨rfl,hb⟩
 have B7:=hd_ (B6.out.trans (hb.mono B6.out.size))
 clear hb B6
 go_wp2_with fail
 clear Hp2 Had1 Hp3 Hof1 Hmu1 Hof2
 generalize p*2^(more-lp)=st at *
 go_loopw [14,15,16,50] (fun a b c i wr=>∃ (j lo hi o:Nat),j≤n∧Hid (digs p more j=some (lo,hi,o))∧a = .string (dec lo)∧b = .string (dec hi)∧c = .string (dec o)∧i = .int .i64 j∧Hid (Below w1.heap.size w1 wr)) (fun _ _ _ i _=>n-(intOf i).toNat)
 case atStart=>exact⟨0,_,_,_,by omega,H0,rfl,rfl,rfl,rfl,B7⟩
 case round =>
  clear B7 H0
  obtain⟨j,lo,hi,o,hj,Hd,rfl,rfl,rfl,rfl,B1⟩:=hrel
  by_cases hlt:j<n
  ·have hlt':(j:Int)<n:=by omega
   obtain⟨f1,f2,f3⟩:=Hdb.out j _ _ _ Hd.out
   have g1:lo<2^K:=Nat.lt_trans f1 Hu2.out
   have g2:hi<2^K:=Nat.lt_trans f2 Hu2.out
   have g3:o<2^K:=Nat.lt_of_lt_of_le f3 (Nat.pow_le_pow_right (by decide) (by have:=Hn.out;have:=HK.out;omega))
   clear f1 f2 f3
   have k1:lo*lo<2^(K+K):=by rw[Nat.pow_add];exact Nat.mul_lt_mul'' g1 g1
   have k2:hi*hi<2^(K+K):=by rw[Nat.pow_add];exact Nat.mul_lt_mul'' g2 g2
   have k3:unit<2^(K+K):=Nat.lt_trans Hu.out (Nat.pow_lt_pow_right (by decide) (by have:=HK.out;omega))
   have k4:2*unit<2^(K+K+1):=Nat.lt_trans Hu2.out (Nat.pow_lt_pow_right (by decide) (by have:=HK.out;omega))
   have k5:lo*lo/unit<2^(K+K):=Nat.lt_of_le_of_lt (Nat.div_le_self _ _) k1
   have k6:hi*hi/unit<2^(K+K):=Nat.lt_of_le_of_lt (Nat.div_le_self _ _) k2
   have one:1<2^(K+K):=Nat.one_lt_two_pow (by have:=HK.out;omega)
   have k7:hi*hi/unit+1<2^(K+K+1):=by rw[Nat.pow_succ 2 (K+K)];omega
   have k8:lo*lo/unit<2^(K+K+1):=Nat.lt_trans k5 (Nat.pow_lt_pow_right (by decide) (by have:=HK.out;omega))
   have k9:(hi*hi/unit+1)/2<2^(K+K+1):=Nat.lt_of_le_of_lt (Nat.div_le_self _ _) k7
   have one1:1<2^(K+K+1):=Nat.one_lt_two_pow (by have:=HK.out;omega)
   have two1:2<2^(K+K+1):=by
    have:2^2≤2^(K+K+1):=Nat.pow_le_pow_right (by decide) (by have:=HK.out;omega)
    omega
   have g3':o<2^(K+K):=Nat.lt_trans g3 (Nat.pow_lt_pow_right (by decide) (by have:=HK.out;omega))
   have k10:o+o<2^(K+K+1):=by rw[Nat.pow_succ 2 (K+K)];omega
   have BL:=fun W (hW:Below wr.heap.size wr W)=>HL.out.below (B1.out.trans (hW.mono B1.out.size))
   have M1:Hid (∀ W,Below wr.heap.size wr W→Gives Tryz.prog 115 #[.string (dec lo),.string (dec lo)] W (.string (dec (lo*lo)))):=fun W hW=>mulD W lo lo K (by have:=HK.out;omega) g1 g1 (BL W hW)
   have M2:Hid (∀ W,Below wr.heap.size wr W→Gives Tryz.prog 115 #[.string (dec hi),.string (dec hi)] W (.string (dec (hi*hi)))):=fun W hW=>mulD W hi hi K (by have:=HK.out;omega) g2 g2 (BL W hW)
   have D1:Hid (∀ W,Below wr.heap.size wr W→Gives Tryz.prog 163 #[.string (dec (lo*lo)),.string (dec unit)] W (.tuple #[.string (dec (lo*lo/unit)),.string (dec (lo*lo%unit)),.int .i64 0])):=fun W hW=>divD W _ unit (K+K) (by have:=HK.out;omega) k1 k3 Hu0.out (BL W hW)
   have D2:Hid (∀ W,Below wr.heap.size wr W→Gives Tryz.prog 163 #[.string (dec (hi*hi)),.string (dec unit)] W (.tuple #[.string (dec (hi*hi/unit)),.string (dec (hi*hi%unit)),.int .i64 0])):=fun W hW=>divD W _ unit (K+K) (by have:=HK.out;omega) k2 k3 Hu0.out (BL W hW)
   have A1:Hid (∀ W,Below wr.heap.size wr W→Gives Tryz.prog 20 #[.string (dec (hi*hi/unit)),.string ⟨#[49]⟩] W (.string (dec (hi*hi/unit+1)))):=fun W hW=>by
    have:=addD W _ 1 (K+K) (by have:=HK.out;omega) k6 one (BL W hW)
    rw[Hd1.out] at this;exact this
   have A2:Hid (∀ W,Below wr.heap.size wr W→Gives Tryz.prog 20 #[.string (dec o),.string (dec o)] W (.string (dec (o+o)))):=fun W hW=>addD W o o K (by have:=HK.out;omega) g3 g3 (BL W hW)
   have A3:Hid (∀ W,Below wr.heap.size wr W→Gives Tryz.prog 20 #[.string (dec (o+o)),.string ⟨#[49]⟩] W (.string (dec (o+o+1)))):=fun W hW=>by
    have:=addD W _ 1 (K+K+1) (by have:=HK.out;omega) k10 one1 (BL W hW)
    rw[Hd1.out] at this;exact this
   have D3:Hid (∀ W,Below wr.heap.size wr W→Gives Tryz.prog 163 #[.string (dec (lo*lo/unit)),.string ⟨#[50]⟩] W (.tuple #[.string (dec (lo*lo/unit/2)),.string (dec (lo*lo/unit%2)),.int .i64 0])):=fun W hW=>by
    have:=divD W _ 2 (K+K+1) (by have:=HK.out;omega) k8 two1 (by decide) (BL W hW)
    rw[Hd2.out] at this;exact this
   have D4:Hid (∀ W,Below wr.heap.size wr W→Gives Tryz.prog 163 #[.string (dec (hi*hi/unit+1)),.string ⟨#[50]⟩] W (.tuple #[.string (dec ((hi*hi/unit+1)/2)),.string (dec ((hi*hi/unit+1)%2)),.int .i64 0])):=fun W hW=>by
    have:=divD W _ 2 (K+K+1) (by have:=HK.out;omega) k7 two1 (by decide) (BL W hW)
    rw[Hd2.out] at this;exact this
   have A4:Hid (∀ W,Below wr.heap.size wr W→Gives Tryz.prog 20 #[.string (dec ((hi*hi/unit+1)/2)),.string ⟨#[49]⟩] W (.string (dec ((hi*hi/unit+1)/2+1)))):=fun W hW=>by
    have:=addD W _ 1 (K+K+1) (by have:=HK.out;omega) k9 one1 (BL W hW)
    rw[Hd1.out] at this;exact this
   obtain⟨c1,hc1,hc1',C1⟩:=compD wr (lo*lo/unit) (2*unit) (K+K+1) (by have:=HK.out;omega) k8 k4
   obtain⟨c2,hc2,hc2',C2⟩:=compD wr (hi*hi/unit+1) (2*unit) (K+K+1) (by have:=HK.out;omega) k7 k4
   have HC1:=hd_ C1
   have HC2:=hd_ C2
   have Hc1:=hd_ hc1'
   have Hc2:=hd_ hc2'
   have Hst:=hd_ (Hnext.out j _ Hd.out)
   simp only[digStep] at Hst
   have Hoo:Hid (2*o=o+o):=Nat.two_mul o
   rw[Hoo.out] at Hst
   clear C1 C2 hc1' hc2' BL k1 k2 k3 k4 k5 k6 k7 k8 k9 k10 one one1 two1 g1 g2 g3 g3' Hoo
   generalize lo*lo/unit=X1 at *
   generalize hi*hi/unit=X2 at *
   generalize lo*lo%unit=r1 at *
   generalize hi*hi%unit=r2 at *
   generalize lo*lo=q1 at *
   generalize hi*hi=q2 at *
   generalize X1%2=r3 at *
   generalize (X2+1)%2=r4 at *
   obtain⟨Y1,hY1⟩:∃ y,X1/2=y:=⟨_,rfl⟩
   obtain⟨Y2,hY2⟩:∃ y,(X2+1)/2+1=y:=⟨_,rfl⟩
   obtain⟨Y3,hY3⟩:∃ y,X2+1=y:=⟨_,rfl⟩
   rw[hY1] at D3 Hst
   rw[hY2] at A4 Hst
   rw[hY3] at D4 A1 HC2 Hst Hc2 A4
   clear hY1 hY2 hY3
   generalize Y3/2=Y4 at *
   generalize dec lo=slo at *
   generalize dec hi=shi at *
   generalize dec o=so at *
   generalize o+o=oo at *
   have P0:=hd_ (Below.refl wr.heap.size wr)
   clear Hnext Hdb
   by_cases h1:0≤c1
   ·have Hst1:Hid (digs p more (j+1)=some (Y1,Y2,oo+1)):=by
     show _=_
     rw[Hst.out,if_pos (Hc1.out.1 h1)]
    clear Hst Hc1 Hc2 HC2
    go_wp2_with fail
    refine cm_ (M1.out _ P0.out) ?_
    rintro e w1 ⟨rfl,hb⟩
    have P1:=hd_ (P0.out.trans (hb.mono P0.out.size))
    clear hb P0 M1
    go_wp2_with fail
    refine cm_ (D1.out _ P1.out) ?_
    rintro e w2 ⟨rfl,hb⟩
    have P2:=hd_ (P1.out.trans (hb.mono P1.out.size))
    clear hb P1 D1
    go_wp2_with fail
    refine cm_ (M2.out _ P2.out) ?_
    rintro e w3 ⟨rfl,hb⟩
    have P3:=hd_ (P2.out.trans (hb.mono P2.out.size))
    clear hb P2 M2
    go_wp2_with fail
    refine cm_ (D2.out _ P3.out) ?_
    rintro e w4 ⟨rfl,hb⟩
    have P4:=hd_ (P3.out.trans (hb.mono P3.out.size))
    clear hb P3 D2
    go_wp2_with fail
    refine cm_ (A1.out _ P4.out) ?_
    rintro e w5 ⟨rfl,hb⟩
    have P5:=hd_ (P4.out.trans (hb.mono P4.out.size))
    clear hb P4 A1
    go_wp2_with fail
    refine cm_ (A2.out _ P5.out) ?_
    rintro e w6 ⟨rfl,hb⟩
    have P6:=hd_ (P5.out.trans (hb.mono P5.out.size))
    clear hb P5 A2
    go_wp2_with fail
    refine cm_ (HC1.out _) ?_
    rintro e w7 ⟨rfl,hb⟩
    have P7:=hd_ (P6.out.trans (hb.mono P6.out.size))
    clear hb P6 HC1
    go_wp2_with fail
    refine cm_ (A3.out _ P7.out) ?_
    rintro e w8 ⟨rfl,hb⟩
    have P8:=hd_ (P7.out.trans (hb.mono P7.out.size))
    clear hb P7 A3
    go_wp2_with fail
    refine cm_ (D3.out _ P8.out) ?_
    rintro e w9 ⟨rfl,hb⟩
    have P9:=hd_ (P8.out.trans (hb.mono P8.out.size))
    clear hb P8 D3
    go_wp2_with fail
    refine cm_ (D4.out _ P9.out) ?_
    rintro e w10 ⟨rfl,hb⟩
    have P10:=hd_ (P9.out.trans (hb.mono P9.out.size))
    clear hb P9 D4
    go_wp2_with fail
    refine cm_ (A4.out _ P10.out) ?_
    rintro e w11 ⟨rfl,hb⟩
    have P11:=hd_ (P10.out.trans (hb.mono P10.out.size))
    clear hb P10 A4
    go_wp2_with fail
    have B9:=hd_ (B1.out.trans (P11.out.mono B1.out.size))
    go_roundw
    case rel=>exact⟨j+1,Y1,Y2,oo+1,by omega,Hst1,rfl,rfl,rfl,by go_num,B9⟩
    case measure=>simp[intOf];omega
   ·have h1':c1<0:=by omega
    by_cases h2:0≤c2
    ·have Hst1:Hid (digs p more (j+1)=none):=by
      show _=_
      rw[Hst.out,if_neg (fun h=>h1 (Hc1.out.2 h)),if_pos (Hc2.out.1 h2)]
     have Hv1:Hid (vv = .tuple #[.string ⟨#[]⟩,.bool false]):=by
      show _=_
      rw[← Hvv.out]
      unfold digitsV
      rw[digs_none Hst1.out (by omega)]
     clear Hst Hc1 Hc2 A3 D3 D4 A4
     go_wp2_with fail
     refine cm_ (M1.out _ P0.out) ?_
     rintro e w1 ⟨rfl,hb⟩
     have P1:=hd_ (P0.out.trans (hb.mono P0.out.size))
     clear hb P0 M1
     go_wp2_with fail
     refine cm_ (D1.out _ P1.out) ?_
     rintro e w2 ⟨rfl,hb⟩
     have P2:=hd_ (P1.out.trans (hb.mono P1.out.size))
     clear hb P1 D1
     go_wp2_with fail
     refine cm_ (M2.out _ P2.out) ?_
     rintro e w3 ⟨rfl,hb⟩
     have P3:=hd_ (P2.out.trans (hb.mono P2.out.size))
     clear hb P2 M2
     go_wp2_with fail
     refine cm_ (D2.out _ P3.out) ?_
     rintro e w4 ⟨rfl,hb⟩
     have P4:=hd_ (P3.out.trans (hb.mono P3.out.size))
     clear hb P3 D2
     go_wp2_with fail
     refine cm_ (A1.out _ P4.out) ?_
     rintro e w5 ⟨rfl,hb⟩
     have P5:=hd_ (P4.out.trans (hb.mono P4.out.size))
     clear hb P4 A1
     go_wp2_with fail
     refine cm_ (A2.out _ P5.out) ?_
     rintro e w6 ⟨rfl,hb⟩
     have P6:=hd_ (P5.out.trans (hb.mono P5.out.size))
     clear hb P5 A2
     go_wp2_with fail
     refine cm_ (HC1.out _) ?_
     rintro e w7 ⟨rfl,hb⟩
     have P7:=hd_ (P6.out.trans (hb.mono P6.out.size))
     clear hb P6 HC1
     go_wp2_with fail
     refine cm_ (HC2.out _) ?_
     rintro e w8 ⟨rfl,hb⟩
     have P8:=hd_ (P7.out.trans (hb.mono P7.out.size))
     clear hb P7 HC2
     go_wp2_with fail
     have B9:=hd_ (B1.out.trans (P8.out.mono B1.out.size))
     go_ret2
     exact⟨by rw[Hv1.out];rfl,B9.out⟩
    ·have h2':c2<0:=by omega
     have Hst1:Hid (digs p more (j+1)=some (X1,Y3,oo)):=by
      show _=_
      rw[Hst.out,if_neg (fun h=>h1 (Hc1.out.2 h)),if_neg (fun h=>h2 (Hc2.out.2 h))]
     clear Hst Hc1 Hc2 A3 D3 D4 A4
     go_wp2_with fail
     refine cm_ (M1.out _ P0.out) ?_
     rintro e w1 ⟨rfl,hb⟩
     have P1:=hd_ (P0.out.trans (hb.mono P0.out.size))
     clear hb P0 M1
     go_wp2_with fail
     refine cm_ (D1.out _ P1.out) ?_
     rintro e w2 ⟨rfl,hb⟩
     have P2:=hd_ (P1.out.trans (hb.mono P1.out.size))
     clear hb P1 D1
     go_wp2_with fail
     refine cm_ (M2.out _ P2.out) ?_
     rintro e w3 ⟨rfl,hb⟩
     have P3:=hd_ (P2.out.trans (hb.mono P2.out.size))
     clear hb P2 M2
     go_wp2_with fail
     refine cm_ (D2.out _ P3.out) ?_
     rintro e w4 ⟨rfl,hb⟩
     have P4:=hd_ (P3.out.trans (hb.mono P3.out.size))
     clear hb P3 D2
     go_wp2_with fail
     refine cm_ (A1.out _ P4.out) ?_
     rintro e w5 ⟨rfl,hb⟩
     have P5:=hd_ (P4.out.trans (hb.mono P4.out.size))
     clear hb P4 A1
     go_wp2_with fail
     refine cm_ (A2.out _ P5.out) ?_
     rintro e w6 ⟨rfl,hb⟩
     have P6:=hd_ (P5.out.trans (hb.mono P5.out.size))
     clear hb P5 A2
     go_wp2_with fail
     refine cm_ (HC1.out _) ?_
     rintro e w7 ⟨rfl,hb⟩
     have P7:=hd_ (P6.out.trans (hb.mono P6.out.size))
     clear hb P6 HC1
     go_wp2_with fail
     refine cm_ (HC2.out _) ?_
     rintro e w8 ⟨rfl,hb⟩
     have P8:=hd_ (P7.out.trans (hb.mono P7.out.size))
     clear hb P7 HC2
     go_wp2_with fail
     have B9:=hd_ (B1.out.trans (P8.out.mono B1.out.size))
     go_roundw
     case rel=>exact⟨j+1,X1,Y3,oo,by omega,Hst1,rfl,rfl,rfl,by go_num,B9⟩
     case measure=>simp[intOf];omega
  ·have hlt':¬ (j:Int)<n:=by omega
   have hjn:j=n:=by omega
   subst hjn
   have Hv1:Hid (vv = .tuple #[.string (dec o),.bool true]):=by
    show _=_
    rw[← Hvv.out]
    unfold digitsV
    rw[Hd.out]
   clear Hnext Hdb
   go_wp2_with fail
   go_ret2
   exact⟨by rw[Hv1.out];rfl,B1.out⟩
end Go.Proofs.YtnjedhgcfeoemaaGreatDoor
