/- Lemmas for the laws of this seat, part 4. -/
import Derived.WalkMore
import Derived.Scope
import Derived.Test.YtnjedhgcfeoemaaGreatDoorWi3
set_option maxRecDepth 100000
set_option maxHeartbeats 16000000
namespace Go.Proofs.YtnjedhgcfeoemaaGreatDoor
open Go.RowKit
theorem digs_ok_all{p n:Nat}(ho:p∈oddP)(hn:n≤1056):∀ more,1120≤more→(digs p more n).isSome=true:=by
 intro more hm
 exact digs_ok (p:=p) (n:=n) (more:=more) ho hn hm
theorem dec_lgN{p n:Nat}(ho:p∈oddP)(hn:n≤1056):∀ more s,64≤more→digs p more n=some s→dec (lgN p n)=dec s.2.2:=by
 intro more s hm h
 have h1:6≤more:=Nat.le_trans (by decide) hm
 have:=digs_lgN (p:=p) (n:=n) (more:=more) ho hn h1 h
 rw[this]
theorem log_any(w:World)(p n:Nat)(hp:p=2∨p∈oddP)(hn:n≤1056)(L:Laid w):Gives Tryz.prog 212 #[.int .i64 p,.int .i64 n] w (.string (dec (lgN p n))):=by
 unfold Gives
 by_cases h2:p=2
 ·subst h2
  have Hp:=hd_ (wpow2 w n (by omega) L)
  rw[show ((2:Nat):Int)=2 from rfl,lgN_two]
  clear L hp
  generalize dec (2^n)=s at *
  go_enter Tryz.func212,Tryz.ntmps212
  go_wp2_with fail
  refine cm_ Hp.out ?_
  rintro e w1 ⟨rfl,hb⟩
  have B1:=hd_ hb
  clear hb Hp
  go_wp2_with fail
  go_ret
  exact⟨rfl,B1.out⟩
 ·have ho:=hp.resolve_left h2
  have hodd:=oddP_odd ho
  have h2':((p:Int)==2)=false:=by rw[beq_eq_false_iff_ne];omega
  have HL:=hd_ L
  have Hdg:Hid (∀ (more:Nat) W,64≤more→more≤4000→Below w.heap.size w W→Gives Tryz.prog 242 #[.int .i64 p,.int .i64 n,.int .i64 more] W (digitsV p n more)):=fun more W h1 h2 hW =>
   sdigits_any W p n more (by omega) (by omega) (by omega) h1 h2 (HL.out.below hW)
  have Hok:Hid (∀ more:Nat,1120≤more→(digs p more n).isSome=true):=hd_ (digs_ok_all ho hn)
  have Hlg:Hid (∀ (more:Nat) s,64≤more→digs p more n=some s→dec (lgN p n)=dec s.2.2):=hd_ (dec_lgN ho hn)
  have hw1:IntKind.i64.wrap ((n:Int)+64)=((n+64:Nat):Int):=by rw[show (n:Int)+64=((n+64:Nat):Int) by omega];exact iw_ _ (by omega)
  have B0:=hd_ (Below.refl w.heap.size w)
  clear L hp ho h2 hodd
  generalize dec (lgN p n)=vv at *
  go_enter Tryz.func212,Tryz.ntmps212
  go_wp2_with fail
  go_loopw [7] (fun a wr=>∃ (more:Nat),Hid (64≤more)∧more≤4000∧a = .int .i64 more∧Hid (Below w.heap.size w wr)) (fun a _=>4000-(intOf a).toNat)
  case atStart=>exact⟨n+64,by show _≤_;omega,by omega,rfl,B0⟩
  case round =>
   clear B0
   obtain⟨more,H64,h4000,rfl,B1⟩:=hrel
   have Hd:=hd_ (Hdg.out more wr H64.out h4000 B1.out)
   cases hd:digs p more n with
   | some s =>
    have Hs:Hid (digitsV p n more = .tuple #[.string (dec s.2.2),.bool true]):=by show _=_;unfold digitsV;rw[hd]
    have Hv:Hid (vv=dec s.2.2):=Hlg.out more s H64.out hd
    rw[Hs.out] at Hd
    clear hd Hs Hlg Hok Hdg
    go_wp2_with fail
    refine cm_ Hd.out ?_
    rintro e w1 ⟨rfl,hb⟩
    have B2:=hd_ (B1.out.trans (hb.mono B1.out.size))
    clear hb Hd
    go_wp2_with fail
    go_ret
    exact⟨by rw[Hv.out];rfl,B2.out⟩
   | none =>
    have Hs:Hid (digitsV p n more = .tuple #[.string ⟨#[]⟩,.bool false]):=by show _=_;unfold digitsV;rw[hd]
    rw[Hs.out] at Hd
    have hlt:more<1120:=by
     refine Nat.lt_of_not_le fun h=>?_
     have:=Hok.out more h
     rw[hd] at this
     cases this
    have hw2:IntKind.i64.wrap ((more:Int)*2)=((more*2:Nat):Int):=by rw[show (more:Int)*2=((more*2:Nat):Int) by omega];exact iw_ _ (by omega)
    clear hd Hs Hlg Hok Hdg
    go_wp2_with fail
    refine cm_ Hd.out ?_
    rintro e w1 ⟨rfl,hb⟩
    have B2:=hd_ (B1.out.trans (hb.mono B1.out.size))
    clear hb Hd
    go_wp2_with fail
    go_roundw
    case rel=>exact⟨more*2,by have:=H64.out;show _≤_;omega,by omega,rfl,B2⟩
    case measure=>have:=H64.out;simp[intOf];omega
theorem cap_sq(u E T:Nat)(h:E*E≤u*T):(2*u+E)*(2*u+E)≤u*(4*u+4*E+T):=by
 have e1:(2*u+E)*(2*u+E)=u*(4*u)+u*(4*E)+E*E:=by
  rw[Nat.mul_add,Nat.add_mul,Nat.add_mul]
  have a1:2*u*(2*u)=4*(u*u):=Nat.mul_mul_mul_comm 2 u 2 u
  have a5:u*(4*u)=4*(u*u):=Nat.mul_left_comm ..
  have a2:E*(2*u)=2*(u*E):=by rw[Nat.mul_left_comm,Nat.mul_comm E u]
  have a3:2*u*E=2*(u*E):=Nat.mul_assoc ..
  have a4:u*(4*E)=4*(u*E):=Nat.mul_left_comm ..
  omega
 rw[e1,Nat.mul_add,Nat.mul_add]
 omega
theorem cap_step{u E T hi:Nat}(h:E*E≤u*T)(hh:hi≤2*u+E):hi*hi/u≤4*u+4*E+T:=by
 have h1:hi*hi≤u*(4*u+4*E+T):=Nat.le_trans (Nat.mul_le_mul hh hh) (cap_sq u E T h)
 exact Nat.div_le_of_le_mul h1
theorem digs_cap{p P:Nat}(hp:p.log2≤P)(h0:0<p):∀ n,n≤1000→n+64≤P→∀ s,digs p P n=some s→s.2.1≤2*2^P+2^(n+2)*(n+1)
 | 0,_,_,s,h=>by
  simp only[digs,Option.some.injEq] at h
  subst h
  have h1:p<2^(p.log2+1):=Nat.lt_log2_self
  have h3:p*2^(P-p.log2)<2^(p.log2+1)*2^(P-p.log2):=Nat.mul_lt_mul_of_pos_right h1 (Nat.two_pow_pos _)
  rw[← Nat.pow_add,show p.log2+1+(P-p.log2)=P+1 by omega,Nat.pow_succ] at h3
  show p*2^(P-p.log2)≤_
  omega
 | n+1,hn,hP,s,h=>by
  simp only[digs] at h
  obtain⟨t,ht,hs⟩:=Option.bind_eq_some_iff.1 h
  have ih:=digs_cap hp h0 n (by omega) (by omega) t ht
  obtain⟨l,g,o⟩:=t
  simp only at ih
  have hE:(2^(n+2)*(n+1))*(2^(n+2)*(n+1))≤2^P*2^n:=by
   have h1:(n+1)≤2^10:=by omega
   have h2:2^(n+2)*(n+1)≤2^(n+2)*2^10:=Nat.mul_le_mul_left _ h1
   have h3:(2^(n+2)*(n+1))*(2^(n+2)*(n+1))≤(2^(n+2)*2^10)*(2^(n+2)*2^10):=Nat.mul_le_mul h2 h2
   refine Nat.le_trans h3 ?_
   rw[← Nat.pow_add,← Nat.pow_add,← Nat.pow_add]
   exact Nat.pow_le_pow_right (by decide) (by omega)
  have h2:=cap_step hE ih
  have e1:2^(n+1+2)*(n+1+1)=2*(2^(n+2)*(n+1))+8*2^n:=by
   rw[show n+1+2=(n+2)+1 by omega,Nat.pow_succ 2 (n+2),show 8*2^n=2^(n+2)*2 by rw[Nat.pow_add];omega,Nat.mul_add (2^(n+2)*2) (n+1) 1,Nat.mul_one,Nat.mul_comm (2^(n+2)) 2,Nat.mul_assoc]
  have hp0:=Nat.two_pow_pos n
  rw[e1]
  simp only[digStep] at hs
  generalize 2^(n+2)*(n+1)=E at *
  generalize g*g/2^P=G at *
  generalize l*l/2^P=M at *
  generalize 2^P=u at *
  generalize 2^n=T at *
  by_cases c1:2*u≤M
  ·rw[if_pos c1] at hs
   cases hs
   show (G+1)/2+1≤_
   omega
  ·rw[if_neg c1] at hs
   by_cases c2:2*u≤G+1
   ·rw[if_pos c2] at hs;cases hs
   ·rw[if_neg c2] at hs
    cases hs
    show G+1≤_
    omega
theorem digs_le{p P:Nat}:∀ n s,digs p P n=some s→s.1≤s.2.1
 | 0,s,h=>by
  simp only[digs,Option.some.injEq] at h
  subst h
  exact Nat.le_refl _
 | n+1,s,h=>by
  simp only[digs] at h
  obtain⟨t,ht,hs⟩:=Option.bind_eq_some_iff.1 h
  have ih:=digs_le n t ht
  obtain⟨l,g,o⟩:=t
  simp only at ih
  have h2:l*l/2^P≤g*g/2^P:=Nat.div_le_div_right (Nat.mul_le_mul ih ih)
  simp only[digStep] at hs
  generalize g*g/2^P=G at *
  generalize l*l/2^P=M at *
  generalize 2^P=u at *
  by_cases c1:2*u≤M
  ·rw[if_pos c1] at hs
   cases hs
   show M/2≤(G+1)/2+1
   omega
  ·rw[if_neg c1] at hs
   by_cases c2:2*u≤G+1
   ·rw[if_pos c2] at hs;cases hs
   ·rw[if_neg c2] at hs
    cases hs
    show M≤G+1
    omega
theorem fit_words{P n hi:Nat}(hn:n≤1000)(hP:n+64≤P)(h:hi≤2*2^P+2^(n+2)*(n+1)):hi<18446744073709551616^(P/64+2):=by
 have h1:(n+1)≤2^10:=by omega
 have h2:2^(n+2)*(n+1)≤2^(n+2)*2^10:=Nat.mul_le_mul_left _ h1
 have h3:2^(n+2)*2^10≤2^P:=by
  rw[← Nat.pow_add]
  exact Nat.pow_le_pow_right (by decide) (by omega)
 have e:(18446744073709551616:Nat)=2^64:=by decide
 rw[e,← Nat.pow_mul]
 have h4:2^(P+2)≤2^(64*(P/64+2)):=Nat.pow_le_pow_right (by decide) (by omega)
 rw[Nat.pow_add] at h4
 have h5:=Nat.two_pow_pos P
 omega
def stepE (u l g:Nat):Option (Bool×Nat×Nat) :=
 if 2*u≤l*l/u then some (true,l*l/u/2,(g*g/u+1)/2+1)
 else if 2*u≤g*g/u+1 then none else some (false,l*l/u,g*g/u+1)
theorem digStep_step(u l g o:Nat):digStep u (l,g,o)=(stepE u l g).map fun x=>(x.2.1,x.2.2,2*o+x.1.toNat):=by
 unfold stepE
 simp only[digStep]
 split
 ·rfl
 ·split<;>rfl
def bitE (p P j:Nat):Bool:=match digs p P (j+1) with
 | some s=>s.2.2%2==1
 | none=>false
def bitsE (p P n:Nat):List Bool:=(List.range n).map (bitE p P)
theorem bitsE_length(p P n:Nat):(bitsE p P n).length=n:=by simp[bitsE]
theorem bitsE_succ(p P n:Nat):bitsE p P (n+1)=bitsE p P n++[bitE p P n]:=by simp[bitsE,List.range_succ]
theorem bitsE_get(p P n j:Nat)(h:j<n):(bitsE p P n).getD j false=bitE p P j:=by
 unfold bitsE
 rw[List.getD_eq_getElem?_getD,List.getElem?_map,List.getElem?_range h];rfl
theorem step_digs{p P n l g o:Nat}(h:digs p P n=some (l,g,o)):
  digs p P (n+1)=(stepE (2^P) l g).map fun x=>(x.2.1,x.2.2,2*o+x.1.toNat):=by
 simp only[digs,h,Option.bind_some]
 exact digStep_step ..
theorem step_some{p P n l g o:Nat}{b:Bool}{l' g':Nat}(h:digs p P n=some (l,g,o))(hs:stepE (2^P) l g=some (b,l',g')):
  digs p P (n+1)=some (l',g',2*o+b.toNat)∧bitE p P n=b:=by
 have h1:=step_digs h
 rw[hs] at h1
 refine⟨h1,?_⟩
 unfold bitE
 rw[h1]
 show ((2*o+b.toNat)%2==1)=b
 cases b
 ·have:(2*o+0)%2=0:=by omega
  show ((2*o+0)%2==1)=false
  rw[this];rfl
 ·have:(2*o+1)%2=1:=by omega
  show ((2*o+1)%2==1)=true
  rw[this];rfl
theorem step_none{p P n l g o:Nat}(h:digs p P n=some (l,g,o))(hs:stepE (2^P) l g=none):digs p P (n+1)=none:=by
 rw[step_digs h,hs];rfl
theorem digs_bit{p P n:Nat}{s t:Nat×Nat×Nat}(h:digs p P n=some s)(h2:digs p P (n+1)=some t):t.2.2=2*s.2.2+(bitE p P n).toNat:=by
 obtain⟨l,g,o⟩:=s
 cases hs:stepE (2^P) l g with
 | none=>rw[step_none h hs] at h2;cases h2
 | some x =>
  obtain⟨b,l',g'⟩:=x
  obtain⟨h3,h4⟩:=step_some h hs
  rw[h3] at h2
  cases h2
  rw[h4]
/-! The words of a prime. -/
theorem vW_two(m i x y:Nat)(h:i+1<m):vW (((List.replicate m 0).set i x).set (i+1) y)=18446744073709551616^i*(x+18446744073709551616*y):=by
 have h1:=vW_set (List.replicate m 0) i x (by simp;omega)
 have h2:=vW_set ((List.replicate m 0).set i x) (i+1) y (by simp;omega)
 have e1:(List.replicate m 0).getD i 0=0:=by rw[List.getD_eq_getElem?_getD,List.getElem?_replicate];split<;>rfl
 have e2:((List.replicate m 0).set i x).getD (i+1) 0=0:=by
  rw[List.getD_eq_getElem?_getD,List.getElem?_set_ne (by omega),List.getElem?_replicate];split<;>rfl
 rw[e1,vW_zeros,Nat.mul_zero,Nat.zero_add] at h1
 rw[e2,Nat.mul_zero] at h2
 simp only[Nat.add_zero] at h1 h2
 rw[h2,h1,Nat.mul_add,Nat.pow_succ,Nat.mul_assoc]
theorem vW_one(m i x:Nat)(h:i<m):vW ((List.replicate m 0).set i x)=18446744073709551616^i*x:=by
 have h1:=vW_set (List.replicate m 0) i x (by simp;omega)
 have e1:(List.replicate m 0).getD i 0=0:=by rw[List.getD_eq_getElem?_getD,List.getElem?_replicate];split<;>rfl
 rw[e1,vW_zeros,Nat.mul_zero,Nat.zero_add] at h1
 simpa using h1
def begW (p at_ m:Nat):List Nat :=
 let l:=(List.replicate m 0).set (at_/64) (p*2^(at_%64)%18446744073709551616)
 if 0<at_%64 then l.set (at_/64+1) (p/2^(64-at_%64)) else l
theorem begW_length(p at_ m:Nat):(begW p at_ m).length=m:=by unfold begW;dsimp only;split<;>simp
theorem begW_val(p at_ m:Nat)(hp:p<128)(h:at_/64+1<m):vW (begW p at_ m)=p*2^at_:=by
 have e64:(18446744073709551616:Nat)=2^64:=by decide
 have ea:2^at_=2^(64*(at_/64))*2^(at_%64):=by rw[← Nat.pow_add];congr 1;omega
 have eb:(18446744073709551616:Nat)^(at_/64)=2^(64*(at_/64)):=by rw[e64,← Nat.pow_mul]
 unfold begW
 dsimp only
 split
 ·rename_i h0
  rw[vW_two m _ _ _ h,eb,ea]
  have e2:p/2^(64-at_%64)=p*2^(at_%64)/18446744073709551616:=by
   have e3:(18446744073709551616:Nat)=2^(64-at_%64)*2^(at_%64):=by rw[← Nat.pow_add,show 64-at_%64+at_%64=64 by omega]
   rw[e3,Nat.mul_div_mul_right _ _ (Nat.two_pow_pos _)]
  rw[e2,Nat.mod_add_div,Nat.mul_left_comm]
 ·rename_i h0
  rw[vW_one m _ _ (by omega),eb,ea]
  have h1:at_%64=0:=by omega
  rw[h1,Nat.pow_zero,Nat.mul_one,Nat.mul_one,Nat.mod_eq_of_lt (by omega),Nat.mul_comm]
theorem begW_wds(p at_ m:Nat)(hp:p<128):Wds (begW p at_ m):=by
 have h1:Wds ((List.replicate m 0).set (at_/64) (p*2^(at_%64)%18446744073709551616)):=(Wds.zeros m).set _ _ (Nat.mod_lt _ (by decide))
 unfold begW
 dsimp only
 split
 ·refine h1.set _ _ ?_
  have:=Nat.div_le_self p (2^(64-at_%64))
  omega
 ·exact h1
/-! Digits in groups. -/
structure MaS (w:World) (B R P:Nat) (a1:Option Addr) (c1:Nat) (L:List Nat) (a2:Option Addr) (c2:Nat) (H:List Nat):Prop where
 ob:w.heap[R]?=some (.cells #[.slice a1 L.length c1,.slice a2 H.length c2,.int .i64 P] 275 (0,0))
 o1:OwnU w B a1 c1 L
 o2:OwnU w B a2 c2 H
 p1:Wds L
 p2:Wds H
def MaAt (w:World) (B R P lo hi:Nat):Prop:=∃ a1 c1 L a2 c2 H,MaS w B R P a1 c1 L a2 c2 H∧B≤R∧L.length=P/64+2∧H.length=P/64+2∧vW L=lo∧vW H=hi
theorem MaS.below{w w':World}{B R P:Nat}{a1 a2:Option Addr}{c1 c2:Nat}{L H:List Nat}(h:MaS w B R P a1 c1 L a2 c2 H)(hb:Below w.heap.size w w'):MaS w' B R P a1 c1 L a2 c2 H :=
 ⟨by rw[hb.block R (Array.getElem?_eq_some_iff.1 h.ob).1];exact h.ob,h.o1.below hb nr_,h.o2.below hb nr_,h.p1,h.p2⟩
theorem three_cells{w:World}{g:Nat}{a b c:Value}{t:TypeId}(h:w.heap[g]?=some (.cells #[a,b,c] t (0,0))):
  w.cell? ⟨g,0,none⟩=some a∧w.cell? ⟨g,1,none⟩=some b∧w.cell? ⟨g,2,none⟩=some c∧(∀ j,w.frozen? ⟨g,j,none⟩=false):=by
 refine⟨by rw[cell_of_row w g 0 _ t (0,0) h];rfl,by rw[cell_of_row w g 1 _ t (0,0) h];rfl,by rw[cell_of_row w g 2 _ t (0,0) h];rfl,fun j=>?_⟩
 simp[World.frozen?,h]
theorem bits_or_zero(x:Nat)(h:x<18446744073709551616):bits .or .u64 (0:Int) (x:Int)=(x:Int):=by
 have:=(bits_nat .u64 64 (by decide) (fun n h0 h1=>by rw[IntKind.wrap_u64];omega) 0 x (by omega) (by omega)).2
 rw[Nat.zero_or] at this
 exact this
theorem begin_any(w:World)(p k P:Nat)(hp:p<128)(hk:k≤P)(hP:P≤2000):
  Calls Tryz.prog 195 #[.int .i64 p,.int .i64 k,.int .i64 P] w fun e w'=>∃ R,e = .returned (.pointer (some ⟨R,0,none⟩))∧MaAt w' w.heap.size R P (p*2^(P-k)) (p*2^(P-k))∧Below w.heap.size w w':=by
 obtain⟨n,hn⟩:∃ n,P/64+2=n:=⟨_,rfl⟩
 obtain⟨t,ht⟩:∃ t,P-k=t:=⟨_,rfl⟩
 have hmk:=made_n n w (by omega)
 have Hown:=hd_ (own_made w (List.replicate n 0) (by simp;omega))
 have Hb:=hd_ ((Below.refl w.heap.size w).alloc nr_ (.cells (u64s (List.replicate n 0)).toArray 193))
 rw[List.length_replicate] at Hown
 obtain⟨m,hm⟩:∃ m,P/64=m:=⟨_,rfl⟩
 obtain⟨i,hi0⟩:∃ i,t/64=i:=⟨_,rfl⟩
 obtain⟨r,hr0⟩:∃ r,t%64=r:=⟨_,rfl⟩
 have hq:Int.tdiv (P:Int) 64=(m:Nat):=by rw[Int.tdiv_eq_ediv_of_nonneg (by omega)];omega
 have hq':(P:Int)/64=(m:Nat):=by omega
 have hq3:IntKind.i64.wrap ((m:Int)+2)=(n:Nat):=by rw[show (m:Int)+2=(n:Nat) by omega];exact iw_ _ (by omega)
 have ht2:IntKind.i64.wrap ((P:Int)-k)=(t:Nat):=by rw[show (P:Int)-k=(t:Nat) by omega];exact iw_ _ (by omega)
 have hd:Int.tdiv (t:Int) 64=(i:Nat):=by rw[Int.tdiv_eq_ediv_of_nonneg (by omega)];omega
 have hd':(t:Int)/64=(i:Nat):=by omega
 have hr:Int.tmod (t:Int) 64=(r:Nat):=by rw[Int.tmod_eq_emod_of_nonneg (by omega)];omega
 have hr':(t:Int)%64=(r:Nat):=by omega
 have hr64:r<64:=by omega
 have hi:i+1<n:=by omega
 have hval:=begW_val p t n hp (by omega)
 have hwds:=begW_wds p t n hp
 have hlen:=begW_length p t n
 unfold begW at hval hwds hlen
 dsimp only at hval hwds hlen
 rw[hi0,hr0] at hval hwds hlen
 have ce1:(w.alloc (.cells (u64s (List.replicate n 0)).toArray 193)).cell? ⟨w.heap.size,i,none⟩=some (.int .u64 (0:Int)):=by
  obtain⟨g,hg,hg1,hg2,hg3,hg4,hg5⟩:=Hown.out.open (by simp;omega)
  obtain rfl:w.heap.size=g:=by simpa using hg
  have:=hg4 i (by simp;omega)
  rw[List.getD_eq_getElem?_getD,List.getElem?_replicate,if_pos (by omega)] at this
  exact this
 have fe1:∀ j,(w.alloc (.cells (u64s (List.replicate n 0)).toArray 193)).frozen? ⟨w.heap.size,j,none⟩=false:=by
  obtain⟨g,hg,hg1,hg2,hg3,hg4,hg5⟩:=Hown.out.open (by simp;omega)
  obtain rfl:w.heap.size=g:=by simpa using hg
  exact hg5
 generalize w.alloc (.cells (u64s (List.replicate n 0)).toArray 193)=w1 at *
 have hival0:bits .or .u64 (0:Int) (IntKind.u64.wrap ((p:Int)*2^r))=((p*2^r%18446744073709551616:Nat):Int):=by
  have e2:IntKind.u64.wrap ((p:Int)*2^r)=((p*2^r%18446744073709551616:Nat):Int):=by
   rw[IntKind.wrap_u64,Int.natCast_emod,Int.natCast_mul,Int.natCast_pow];rfl
  rw[e2]
  exact bits_or_zero _ (Nat.mod_lt _ (by decide))
 obtain⟨x,hx⟩:∃ x,p*2^r%18446744073709551616=x:=⟨_,rfl⟩
 rw[hx] at hival0 hval hwds hlen
 have hfe:=fe1 i
 have hwp:IntKind.u64.wrap (p:Int)=(p:Int):=IntWalk.u64_in _ (by omega)
 rw[ht]
 go_enter Tryz.func195,Tryz.ntmps195
 go_wp2_with fail
 have HO1:=hd_ (Hown.out.store i x)
 have HB1:=hd_ (Hb.out.setCell (p:=⟨w.heap.size,i,none⟩) nr_ (.int .u64 (x:Nat)))
 have q1:=NW.cell ce1
 have hnon:Nonempty (NW w1):=⟨⟨w1,Below.refl _ _⟩⟩
 have I:Hid (Below w1.heap.size w1 w1.drew):=(Below.refl _ _).drew
 refine RP.wp_region_readers 12 [(2,0),(2,1),(2,2),(2,3),(1,4),(2,5),(2,6),(2,7),(2,8),(2,9),(2,10),(2,11),(0,12)] (fun w'=>∃ p:NW w1,w'=p.w) (by kernel_rfl) (by kernel_rfl) ?_ ?_
 ·exact⟨⟨_,I.out⟩,rfl⟩
 iterate 4 (refine RP.walkR_any ?_;simp only[dsc_,dz_,tsc_,tz_];go_big_quiet_step (fail);refine wpQuiet_nil ?_)
 iterate 1 (refine RP.walkR_read ?_;simp only[dsc_,dz_,tsc_,tz_];go_big_quiet_step (fail);refine wpQuiet_nil ?_)
 iterate 7 (refine RP.walkR_any ?_;simp only[dsc_,dz_,tsc_,tz_];go_big_quiet_step (fail);refine wpQuiet_nil ?_)
 iterate 1 (refine RP.walkR_move ?_;simp only[dsc_,dz_,tsc_,tz_];go_wp2_with fail)
 simp only[RP.walkR]
 have HO2:Hid (OwnU (w1.setCell ⟨w.heap.size,i,none⟩ (.int .u64 (x:Nat))).drew w.heap.size (some ⟨w.heap.size,0,none⟩) n ((List.replicate n 0).set i x)):=HO1.out.below (below_drawn _ 1) nr_
 have HB2:Hid (Below w.heap.size w (w1.setCell ⟨w.heap.size,i,none⟩ (.int .u64 (x:Nat))).drew):=below_dn HB1.out 1
 clear HO1 HB1 I hnon q1 ce1 hfe hival0 Hown Hb
 generalize (w1.setCell ⟨w.heap.size,i,none⟩ (.int .u64 (x:Nat))).drew=w2 at *
 by_cases h0:0<r
 ·have h0':(0:Int)<r:=by omega
  have h64:IntKind.i64.wrap (64-(r:Int))=((64-r:Nat):Int):=by rw[show (64:Int)-r=((64-r:Nat):Int) by omega];exact iw_ _ (by omega)
  have hi1:IntKind.i64.wrap ((i:Int)+1)=((i+1:Nat):Int):=by rw[← Int.natCast_succ];exact iw_ _ (by omega)
  have hil:((List.replicate n 0).set i x).length=n:=by simp
  have ce2:w2.cell? ⟨w.heap.size,i+1,none⟩=some (.int .u64 (0:Int)):=by
   obtain⟨g,hg,hg1,hg2,hg3,hg4,hg5⟩:=HO2.out.open (by simp;omega)
   obtain rfl:w.heap.size=g:=by simpa using hg
   have:=hg4 (i+1) (by simp;omega)
   rw[List.getD_eq_getElem?_getD,List.getElem?_set_ne (by omega),List.getElem?_replicate,if_pos (by omega)] at this
   exact this
  have fe2:w2.frozen? ⟨w.heap.size,i+1,none⟩=false:=by
   obtain⟨g,hg,hg1,hg2,hg3,hg4,hg5⟩:=HO2.out.open (by simp;omega)
   obtain rfl:w.heap.size=g:=by simpa using hg
   exact hg5 _
  obtain⟨y,hy⟩:∃ y,p/2^(64-r)=y:=⟨_,rfl⟩
  have hyp:(p:Int)/2^(64-r)=(y:Nat):=by rw[← hy,Int.natCast_ediv,Int.natCast_pow];rfl
  have hy64:y<18446744073709551616:=by rw[← hy];have:=Nat.div_le_self p (2^(64-r));omega
  have hor:=bits_or_zero y hy64
  rw[if_pos h0,hy] at hval hwds hlen
  have HV:=hd_ hval
  have HW:=hd_ hwds
  have HL:=hd_ hlen
  have HO3:=hd_ (HO2.out.store (i+1) y)
  have HB3:=hd_ (HB2.out.setCell (p:=⟨w.heap.size,i+1,none⟩) nr_ (.int .u64 (y:Nat)))
  have q1:=NW.cell ce2
  have hnon:Nonempty (NW w2):=⟨⟨w2,Below.refl _ _⟩⟩
  have I:Hid (Below w2.heap.size w2 w2.drew):=(Below.refl _ _).drew
  clear hval hwds hlen hy HO2 HB2
  go_wp2_with fail
  refine RP.wp_region_readers 14 [(2,0),(2,1),(2,2),(2,3),(2,4),(1,5),(2,6),(2,7),(2,8),(2,9),(2,10),(2,11),(2,12),(2,13),(0,14)] (fun w'=>∃ p:NW w2,w'=p.w) (by kernel_rfl) (by kernel_rfl) ?_ ?_
  ·exact⟨⟨_,I.out⟩,rfl⟩
  iterate 5 (refine RP.walkR_any ?_;simp only[dsc_,dz_,tsc_,tz_];go_big_quiet_step (fail);refine wpQuiet_nil ?_)
  iterate 1 (refine RP.walkR_read ?_;simp only[dsc_,dz_,tsc_,tz_];go_big_quiet_step (fail);refine wpQuiet_nil ?_)
  iterate 8 (refine RP.walkR_any ?_;simp only[dsc_,dz_,tsc_,tz_];go_big_quiet_step (fail);refine wpQuiet_nil ?_)
  iterate 1 (refine RP.walkR_move ?_;simp only[dsc_,dz_,tsc_,tz_];go_wp2_with fail)
  simp only[RP.walkR]
  have HO4:Hid (OwnU (w2.setCell ⟨w.heap.size,i+1,none⟩ (.int .u64 (y:Nat))).drew w.heap.size (some ⟨w.heap.size,0,none⟩) n (((List.replicate n 0).set i x).set (i+1) y)):=HO3.out.below (below_drawn _ 1) nr_
  have HB4:Hid (Below w.heap.size w (w2.setCell ⟨w.heap.size,i+1,none⟩ (.int .u64 (y:Nat))).drew):=below_dn HB3.out 1
  clear HO3 HB3 I hnon q1 ce2 fe2 hor
  generalize (w2.setCell ⟨w.heap.size,i+1,none⟩ (.int .u64 (y:Nat))).drew=w3 at *
  generalize ((List.replicate n 0).set i x).set (i+1) y=Ls at *
  have HC:=nclone_any w3 (some ⟨w.heap.size,0,none⟩) n Ls HO4.out.reads (by rw[HL.out];omega) (by rw[HL.out];omega)
  rw[HL.out] at HC
  have HC':=hd_ HC
  clear HC
  go_wp2_with fail
  refine cm_ HC'.out ?_
  rintro e w4 ⟨g,d,rfl,ho,hb⟩
  have O1:=hd_ (HO4.out.below hb nr_)
  have O2:=hd_ (ho.mono HB4.out.size)
  have B5:=hd_ (HB4.out.trans (hb.mono HB4.out.size))
  have Hsz:=hd_ B5.out.size
  clear ho hb HC' HO4 HB4
  go_wp2_with fail
  go_ret
  refine⟨w4.heap.size,rfl,⟨_,_,Ls,_,_,Ls,⟨?_,O1.out.below ((Below.refl _ _).alloc nr_ _) nr_,O2.out.below ((Below.refl _ _).alloc nr_ _) nr_,HW.out,HW.out⟩,Hsz.out,by rw[HL.out];omega,by rw[HL.out];omega,HV.out,HV.out⟩,B5.out.alloc Hsz.out _⟩
  have:=heap_alloc_new w4 (.cells #[.slice (some ⟨w.heap.size,0,none⟩) n n,.slice (some ⟨g,0,none⟩) n d,.int .i64 P] 275)
  rw[HL.out]
  exact this
 ·have h0':¬ (0:Int)<r:=by omega
  rw[if_neg h0] at hval hwds hlen
  have HV:=hd_ hval
  have HW:=hd_ hwds
  have HL:=hd_ hlen
  have HO4:=HO2
  have HB4:=HB2
  clear hval hwds hlen HO2 HB2
  generalize w2=w3 at *
  generalize (List.replicate n 0).set i x=Ls at *
  have HC:=nclone_any w3 (some ⟨w.heap.size,0,none⟩) n Ls HO4.out.reads (by rw[HL.out];omega) (by rw[HL.out];omega)
  rw[HL.out] at HC
  have HC':=hd_ HC
  clear HC
  go_wp2_with fail
  refine cm_ HC'.out ?_
  rintro e w4 ⟨g,d,rfl,ho,hb⟩
  have O1:=hd_ (HO4.out.below hb nr_)
  have O2:=hd_ (ho.mono HB4.out.size)
  have B5:=hd_ (HB4.out.trans (hb.mono HB4.out.size))
  have Hsz:=hd_ B5.out.size
  clear ho hb HC' HO4 HB4
  go_wp2_with fail
  go_ret
  refine⟨w4.heap.size,rfl,⟨_,_,Ls,_,_,Ls,⟨?_,O1.out.below ((Below.refl _ _).alloc nr_ _) nr_,O2.out.below ((Below.refl _ _).alloc nr_ _) nr_,HW.out,HW.out⟩,Hsz.out,by rw[HL.out];omega,by rw[HL.out];omega,HV.out,HV.out⟩,B5.out.alloc Hsz.out _⟩
  have:=heap_alloc_new w4 (.cells #[.slice (some ⟨w.heap.size,0,none⟩) n n,.slice (some ⟨g,0,none⟩) n d,.int .i64 P] 275)
  rw[HL.out]
  exact this
def BitOut (w w':World) (B R P:Nat) (st:Option (Bool×Nat×Nat)) (e:Ending):Prop :=
 w.grownBy w' (some R)∧match st with
  | none=>e = .returned (.tuple #[.bool false,.bool false])
  | some x=>e = .returned (.tuple #[.bool x.1,.bool true])∧MaAt w' B R P x.2.1 x.2.2
theorem grown_below{w w':World}{R:Nat}(h:Below w.heap.size w w'):w.grownBy w' (some R):=⟨h.os,h.tape,h.output,h.size,fun k hk _=>h.block k hk⟩
theorem grown_set(W:World)(R j:Nat)(v:Value):W.grownBy (W.setCell ⟨R,j,none⟩ v) (some R) :=
 ⟨rfl,rfl,rfl,(KeepsWalks.setCell W _ v).size,fun k _ hk=>Below.heap_setCell _ _ _ k (fun e=>hk (by rw[e]))⟩
theorem OwnU.grown{w w':World}{B R:Nat}{a:Option Addr}{c:Nat}{l:List Nat}(h:OwnU w B a c l)(hg:w.grownBy w' (some R))(hR:R<B):OwnU w' B a c l:=by
 refine World.ownsRow.kept h hg ?_
 cases hv:(Value.slice a l.length c).ownBlock with
 | none=>simp
 | some k =>
  have:=(World.ownsRow.lt h k hv).1
  exact .inr (fun e=>by cases e;omega)
theorem three_set{w:World}{R:Nat}{x y z x' y':Value}{t:TypeId}(h:w.heap[R]?=some (.cells #[x,y,z] t (0,0))):
  ((w.setCell ⟨R,0,none⟩ x').setCell ⟨R,1,none⟩ y').heap[R]?=some (.cells #[x',y',z] t (0,0)):=by
 have hlt:=lt_of_block h
 have h':w.heap[R] = .cells #[x,y,z] t (0,0):=by simpa [Array.getElem?_eq_getElem hlt] using h
 have e1:(w.setCell ⟨R,0,none⟩ x').heap[R]?=some (.cells #[x',y,z] t (0,0)):=by
  show (w.heap.modify R _)[R]?=_
  rw[Array.getElem?_eq_getElem (by simpa using hlt),Array.getElem_modify_self,h']
  rfl
 have hlt2:=lt_of_block e1
 have h2':(w.setCell ⟨R,0,none⟩ x').heap[R] = .cells #[x',y,z] t (0,0):=by simpa [Array.getElem?_eq_getElem hlt2] using e1
 show ((w.setCell ⟨R,0,none⟩ x').heap.modify R _)[R]?=_
 rw[Array.getElem?_eq_getElem (by simpa using hlt2),Array.getElem_modify_self,h2']
 rfl
theorem MaS.put{w w0:World}{B R P C:Nat}{a1 a2 b1 b2:Option Addr}{c1 c2 d1 d2:Nat}{L H L' H':List Nat}(h:MaS w B R P a1 c1 L a2 c2 H)(hC:R<C)(o1:OwnU w C b1 d1 L')(o2:OwnU w C b2 d2 H')(p1:Wds L')(p2:Wds H')(hg:w0.grownBy w (some R)):
  MaS ((w.setCell ⟨R,0,none⟩ (.slice b1 L'.length d1)).setCell ⟨R,1,none⟩ (.slice b2 H'.length d2)) C R P b1 d1 L' b2 d2 H'∧w0.grownBy ((w.setCell ⟨R,0,none⟩ (.slice b1 L'.length d1)).setCell ⟨R,1,none⟩ (.slice b2 H'.length d2)) (some R):=by
 have g2:=grown_trans (grown_set w R 0 (.slice b1 L'.length d1)) (grown_set _ R 1 (.slice b2 H'.length d2))
 exact⟨⟨three_set h.ob,o1.grown g2 hC,o2.grown g2 hC,p1,p2⟩,grown_trans hg g2⟩
theorem MaS.mono{w:World}{B C R P:Nat}{a1 a2:Option Addr}{c1 c2:Nat}{L H:List Nat}(h:MaS w C R P a1 c1 L a2 c2 H)(hB:B≤C):MaS w B R P a1 c1 L a2 c2 H :=
 ⟨h.ob,h.o1.mono hB,h.o2.mono hB,h.p1,h.p2⟩
theorem bit_any(w:World)(B R P lo hi:Nat)(M:MaAt w B R P lo hi)(hP:P≤2000)(hB:B≤w.heap.size)(hle:lo≤hi)
  (hfit:∀ x,stepE (2^P) lo hi=some x→x.2.1<18446744073709551616^(P/64+2)∧x.2.2<18446744073709551616^(P/64+2)) :
  Calls Tryz.prog 196 #[.pointer (some ⟨R,0,none⟩)] w fun e w'=>BitOut w w' B R P (stepE (2^P) lo hi) e:=by
 obtain⟨a1,c1,L,a2,c2,H,S,hBR,l1,l2,v1,v2⟩:=M
 obtain⟨wo,hwo⟩:∃ wo,P/64=wo:=⟨_,rfl⟩
 obtain⟨r,hr⟩:∃ r,P%64=r:=⟨_,rfl⟩
 have hPe:P=64*wo+r:=by omega
 have hr64:r<64:=by omega
 have hRs:R<w.heap.size:=(Array.getElem?_eq_some_iff.1 S.ob).1
 obtain⟨k0,k1,k2,kf⟩:=three_cells S.ob
 rw[l1] at k0
 rw[l2] at k1
 rw[hwo] at k0 k1 l1 l2 hfit
 have HP:=hd_ hPe
 have hwob:wo≤40:=by omega
 have Hwo:=hd_ hwo
 have HQ1:Hid (∀ W,Below w.heap.size w W→Calls Tryz.prog 223 #[.slice a1 (wo+2) c1] W fun e w'=>∃ a c LL,e = .returned (.slice a (2*(wo+2)+1) c)∧LL.length=2*(wo+2)+1∧OwnU w' W.heap.size a c LL∧Wds LL∧vW LL=lo*lo∧Below W.heap.size W w'):=fun W hW=>by
  have:=square_any W a1 c1 L (S.o1.reads.below hW nr_) S.p1 (by omega)
  rw[l1,v1] at this
  exact this
 have HQ2:Hid (∀ W,Below w.heap.size w W→Calls Tryz.prog 223 #[.slice a2 (wo+2) c2] W fun e w'=>∃ a c LL,e = .returned (.slice a (2*(wo+2)+1) c)∧LL.length=2*(wo+2)+1∧OwnU w' W.heap.size a c LL∧Wds LL∧vW LL=hi*hi∧Below W.heap.size W w'):=fun W hW=>by
  have:=square_any W a2 c2 H (S.o2.reads.below hW nr_) S.p2 (by omega)
  rw[l2,v2] at this
  exact this
 have HS:=hd_ S
 have HFit:=hd_ hfit
 -- the shifts
 have HSh:Hid (∀ W a c (LL:List Nat) v,ReadsU W a LL→Wds LL→LL.length=2*(wo+2)+1→vW LL=v→Calls Tryz.prog 224 #[.slice a (2*(wo+2)+1) c,.int .i64 P] W fun e w'=>∃ a c S,e = .returned (.slice a (wo+5) c)∧S.length=wo+5∧OwnU w' W.heap.size a c S∧Wds S∧vW S=v/2^P∧Below W.heap.size W w'):=fun W a c LL v h1 h2 h3 h4=>by
  have:=shift_any W a c LL P wo r hPe hr64 h1 h2 (by omega) (by omega)
  rw[h3,show 2*(wo+2)+1-wo=wo+5 by omega] at this
  refine this.mono ?_
  rintro e w' ⟨a',c',rfl,ho,hb⟩
  refine⟨a',c',_,rfl,shW_length ..,ho,shW_wds h2 hr64,?_,hb⟩
  rw[shW_val h2 hr64 (by omega),h4,← hPe]
 have HNx:Hid (∀ W a c (LL:List Nat) k v,ReadsU W a LL→Wds LL→LL.length=k→0<k→k≤1000→vW LL=v→Calls Tryz.prog 225 #[.slice a k c] W fun e w'=>∃ a c S,e = .returned (.slice a (k+1) c)∧S.length=k+1∧OwnU w' W.heap.size a c S∧Wds S∧vW S=v+1∧Below W.heap.size W w'):=fun W a c LL k v h1 h2 h3 h0 hk h4=>by
  have:=next_any W a c LL h1 h2 (by omega) (by omega)
  rw[h3,h4] at this
  exact this
 have HRe:Hid (∀ W a c (LL:List Nat) k v,ReadsU W a LL→Wds LL→LL.length=k→wo+2<k→k≤1000→vW LL=v→Gives Tryz.prog 226 #[.slice a k c,.int .i64 ((P:Int)+1)] W (.bool (decide (2*2^P≤v)))):=fun W a c LL k v h1 h2 h3 h0 hk h4=>by
  have:=reaches_any W a c LL (P+1) ((P+1)/64) ((P+1)%64) (by omega) (Nat.mod_lt _ (by decide)) h1 h2 (by omega) (by omega)
  rw[h3,h4,Nat.pow_succ,Nat.mul_comm] at this
  exact this
 have hP1:IntKind.i64.wrap ((P:Int)+1)=(P:Int)+1:=iw_ _ (by omega)
 have HS1:Hid (∀ W a c (LL:List Nat) k v,ReadsU W a LL→Wds LL→LL.length=k→0<k→k≤1000→vW LL=v→Calls Tryz.prog 224 #[.slice a k c,.int .i64 1] W fun e w'=>∃ a c S,e = .returned (.slice a k c)∧S.length=k∧OwnU w' W.heap.size a c S∧Wds S∧vW S=v/2∧Below W.heap.size W w'):=fun W a c LL k v h1 h2 h3 h0 hk h4=>by
  have:=shift_any W a c LL 1 0 1 rfl (by decide) h1 h2 (by omega) (by omega)
  rw[h3,Nat.sub_zero] at this
  refine this.mono ?_
  rintro e w' ⟨a',c',rfl,ho,hb⟩
  refine⟨a',c',_,rfl,shW_length ..,ho,shW_wds h2 (by decide),?_,hb⟩
  rw[shW_val h2 (by decide) (by omega),h4]
 have hq:Int.tdiv (P:Int) 64=(wo:Nat):=by rw[Int.tdiv_eq_ediv_of_nonneg (by omega)];omega
 have hq':(P:Int)/64=(wo:Nat):=by omega
 have hq3:IntKind.i64.wrap ((wo:Int)+2)=(wo:Int)+2:=iw_ _ (by omega)
 have Hmg:Hid (lo*lo/2^P≤hi*hi/2^P+1):=Nat.le_succ_of_le (Nat.div_le_div_right (Nat.mul_le_mul hle hle))
 have Hst:Hid (stepE (2^P) lo hi=if 2*2^P≤lo*lo/2^P then some (true,lo*lo/2^P/2,(hi*hi/2^P+1)/2+1) else if 2*2^P≤hi*hi/2^P+1 then none else some (false,lo*lo/2^P,hi*hi/2^P+1)):=rfl
 generalize stepE (2^P) lo hi=st at *
 clear S hfit l1 l2 v1 v2 hPe hwo hr
 have q0:=NW.cell k0
 have q1:=NW.cell k1
 have q2:=NW.cell k2
 have hnon:Nonempty (NW w):=⟨⟨w,Below.refl _ _⟩⟩
 have I:Hid (Below w.heap.size w w.drew):=(Below.refl _ _).drew
 go_enter Tryz.func196,Tryz.ntmps196
 go_wp2_with fail
 refine RP.wp_region_readers 25 [(2,0),(2,1),(2,2),(2,3),(2,4),(1,5),(2,7),(2,8),(2,9),(1,10),(2,12),(2,13),(2,14),(1,15),(2,17),(2,18),(2,19),(1,20),(0,6),(0,11),(0,16),(0,21),(0,22),(2,23),(2,24),(0,25),(2,26),(2,27),(0,28)] (fun w'=>∃ p:NW w,w'=p.w) (by kernel_rfl) (by kernel_rfl) ?_ ?_
 ·exact⟨⟨_,I.out⟩,rfl⟩
 iterate 5 (refine RP.walkR_any ?_;simp only[dsc_,dz_,tsc_,tz_];go_big_quiet_step (fail);refine wpQuiet_nil ?_)
 iterate 1 (refine RP.walkR_read ?_;simp only[dsc_,dz_,tsc_,tz_];go_big_quiet_step (fail);refine wpQuiet_nil ?_)
 iterate 3 (refine RP.walkR_any ?_;simp only[dsc_,dz_,tsc_,tz_];go_big_quiet_step (fail);refine wpQuiet_nil ?_)
 iterate 1 (refine RP.walkR_read ?_;simp only[dsc_,dz_,tsc_,tz_];go_big_quiet_step (fail);refine wpQuiet_nil ?_)
 iterate 3 (refine RP.walkR_any ?_;simp only[dsc_,dz_,tsc_,tz_];go_big_quiet_step (fail);refine wpQuiet_nil ?_)
 iterate 1 (refine RP.walkR_read ?_;simp only[dsc_,dz_,tsc_,tz_];go_big_quiet_step (fail);refine wpQuiet_nil ?_)
 iterate 3 (refine RP.walkR_any ?_;simp only[dsc_,dz_,tsc_,tz_];go_big_quiet_step (fail);refine wpQuiet_nil ?_)
 iterate 1 (refine RP.walkR_read ?_;simp only[dsc_,dz_,tsc_,tz_];go_big_quiet_step (fail);refine wpQuiet_nil ?_)
 clear hnon q0 q1 q2 k0 k1 k2
 refine RP.walkR_move ?_
 simp only[dsc_,dz_,tsc_,tz_]
 go_wp2_with fail
 refine cm_ (HQ1.out _ I.out) ?_
 rintro e w1 ⟨b1,d1,L1,rfl,hl,ho,hp,hv,hb⟩
 have I1:Hid (Below w.heap.size w w1):=I.out.trans (hb.mono I.out.size)
 have HL1:=hd_ (And.intro hl hv)
 have O1:=hd_ ho
 have P1:=hd_ hp
 clear hl ho hp hv hb HQ1 I
 go_wp2_with fail
 refine⟨⟨⟨_,I1.out⟩,rfl⟩,?_⟩
 refine RP.walkR_move ?_
 simp only[dsc_,dz_,tsc_,tz_]
 go_wp2_with fail
 refine cm_ (HSh.out _ _ _ L1 (lo*lo) O1.out.reads P1.out HL1.out.1 HL1.out.2) ?_
 rintro e w2 ⟨b2,d2,L2,rfl,hl,ho,hp,hv,hb⟩
 have I2:Hid (Below w.heap.size w w2):=I1.out.trans (hb.mono I1.out.size)
 have HL2:=hd_ (And.intro hl hv)
 have O2:=hd_ (ho.mono I1.out.size)
 have P2:=hd_ hp
 clear hl ho hp hv hb HL1 O1 P1 I1
 go_wp2_with fail
 refine⟨⟨⟨_,I2.out⟩,rfl⟩,?_⟩
 refine RP.walkR_move ?_
 simp only[dsc_,dz_,tsc_,tz_]
 go_wp2_with fail
 refine cm_ (HQ2.out _ I2.out) ?_
 rintro e w3 ⟨b3,d3,L3,rfl,hl,ho,hp,hv,hb⟩
 have I3:Hid (Below w.heap.size w w3):=I2.out.trans (hb.mono I2.out.size)
 have O2':=hd_ (O2.out.below hb nr_)
 have HL3:=hd_ (And.intro hl hv)
 have O3:=hd_ ho
 have P3:=hd_ hp
 clear hl ho hp hv hb HQ2 I2 O2
 go_wp2_with fail
 refine⟨⟨⟨_,I3.out⟩,rfl⟩,?_⟩
 refine RP.walkR_move ?_
 simp only[dsc_,dz_,tsc_,tz_]
 go_wp2_with fail
 refine cm_ (HSh.out _ _ _ L3 (hi*hi) O3.out.reads P3.out HL3.out.1 HL3.out.2) ?_
 rintro e w4 ⟨b4,d4,L4,rfl,hl,ho,hp,hv,hb⟩
 have I4:Hid (Below w.heap.size w w4):=I3.out.trans (hb.mono I3.out.size)
 have O2:=hd_ (O2'.out.below hb nr_)
 have HL4:=hd_ (And.intro hl hv)
 have O4:=hd_ ho
 have P4:=hd_ hp
 clear hl ho hp hv hb HL3 O3 P3 I3 O2'
 go_wp2_with fail
 refine⟨⟨⟨_,I4.out⟩,rfl⟩,?_⟩
 refine RP.walkR_move ?_
 simp only[dsc_,dz_,tsc_,tz_]
 go_wp2_with fail
 refine cm_ (HNx.out _ _ _ L4 (wo+5) (hi*hi/2^P) O4.out.reads P4.out HL4.out.1 (by omega) (by omega) HL4.out.2) ?_
 rintro e w5 ⟨b5,d5,L5,rfl,hl,ho,hp,hv,hb⟩
 have I5:Hid (Below w.heap.size w w5):=I4.out.trans (hb.mono I4.out.size)
 have O2':=hd_ (O2.out.below hb nr_)
 have HL5:=hd_ (And.intro hl hv)
 have O5:=hd_ (ho.mono I4.out.size)
 have P5:=hd_ hp
 have HS5:=hd_ (HS.out.below I5.out)
 obtain⟨k0,k1,k2,kf⟩:=three_cells HS5.out.ob
 clear hl ho hp hv hb HL4 O4 P4 I4 O2
 go_wp2_with fail
 refine⟨⟨⟨_,I5.out⟩,rfl⟩,?_⟩
 iterate 2 (refine RP.walkR_any ?_;simp only[dsc_,dz_,tsc_,tz_];go_big_quiet_step (fail);refine wpQuiet_nil ?_)
 have hf0:=kf 0
 have hf1:=kf 1
 refine RP.walkR_move ?_
 simp only[dsc_,dz_,tsc_,tz_]
 go_wp2_with fail
 iterate 2 (refine RP.walkR_any ?_;simp only[dsc_,dz_,tsc_,tz_];go_big_quiet_step (fail);refine wpQuiet_nil ?_)
 refine RP.walkR_move ?_
 simp only[dsc_,dz_,tsc_,tz_]
 go_wp2_with fail
 simp only[RP.walkR]
 have hput:=HS5.out.put hRs O2'.out O5.out P2.out P5.out (grown_below I5.out)
 rw[HL2.out.1,HL5.out.1] at hput
 have hS6:=hput.1
 have G6:=hd_ hput.2
 obtain⟨k0,k1,k2,kf⟩:=three_cells hS6.ob
 rw[HL2.out.1] at k0
 rw[HL5.out.1] at k1
 have HS6:=hd_ hS6
 clear hput hS6 HS5 O2' O5 hf0 hf1 I5 HS
 generalize (w5.setCell ⟨R,0,none⟩ (.slice b2 (wo+5) d2)).setCell ⟨R,1,none⟩ (.slice b5 (wo+5+1) d5)=w6 at *
 have q0:=NW.cell k0
 have q1:=NW.cell k1
 have q2:=NW.cell k2
 have hnon:Nonempty (NW w6):=⟨⟨w6,Below.refl _ _⟩⟩
 have I:Hid (Below w6.heap.size w6 w6.drew):=(Below.refl _ _).drew
 go_wp2_with fail
 refine RP.wp_region_readers 19 [(2,0),(2,1),(2,2),(1,3),(2,4),(2,5),(2,6),(1,7),(2,8),(2,10),(2,11),(2,12),(1,13),(2,14),(2,15),(2,16),(1,17),(2,18),(0,9),(0,19),(2,20),(2,21)] (fun w'=>∃ p:NW w6,w'=p.w) (by kernel_rfl) (by kernel_rfl) ?_ ?_
 ·exact⟨⟨_,I.out⟩,rfl⟩
 iterate 3 (refine RP.walkR_any ?_;simp only[dsc_,dz_,tsc_,tz_];go_big_quiet_step (fail);refine wpQuiet_nil ?_)
 iterate 1 (refine RP.walkR_read ?_;simp only[dsc_,dz_,tsc_,tz_];go_big_quiet_step (fail);refine wpQuiet_nil ?_)
 iterate 3 (refine RP.walkR_any ?_;simp only[dsc_,dz_,tsc_,tz_];go_big_quiet_step (fail);refine wpQuiet_nil ?_)
 iterate 1 (refine RP.walkR_read ?_;simp only[dsc_,dz_,tsc_,tz_];go_big_quiet_step (fail);refine wpQuiet_nil ?_)
 iterate 4 (refine RP.walkR_any ?_;simp only[dsc_,dz_,tsc_,tz_];go_big_quiet_step (fail);refine wpQuiet_nil ?_)
 iterate 1 (refine RP.walkR_read ?_;simp only[dsc_,dz_,tsc_,tz_];go_big_quiet_step (fail);refine wpQuiet_nil ?_)
 iterate 3 (refine RP.walkR_any ?_;simp only[dsc_,dz_,tsc_,tz_];go_big_quiet_step (fail);refine wpQuiet_nil ?_)
 iterate 1 (refine RP.walkR_read ?_;simp only[dsc_,dz_,tsc_,tz_];go_big_quiet_step (fail);refine wpQuiet_nil ?_)
 iterate 1 (refine RP.walkR_any ?_;simp only[dsc_,dz_,tsc_,tz_];go_big_quiet_step (fail);refine wpQuiet_nil ?_)
 clear hnon q0 q1 q2 k0 k1 k2
 refine RP.walkR_move ?_
 simp only[dsc_,dz_,tsc_,tz_]
 go_wp2_with fail
 refine cm_ (HRe.out _ _ _ L2 (wo+5) (lo*lo/2^P) ((HS6.out.o1.reads.below I.out nr_)) P2.out HL2.out.1 (by omega) (by omega) HL2.out.2) ?_
 rintro e w7 ⟨rfl,hb⟩
 have I7:Hid (Below w6.heap.size w6 w7):=I.out.trans (hb.mono I.out.size)
 clear hb I
 go_wp2_with fail
 refine⟨⟨⟨_,I7.out⟩,rfl⟩,?_⟩
 refine RP.walkR_move ?_
 simp only[dsc_,dz_,tsc_,tz_]
 go_wp2_with fail
 refine cm_ (HRe.out _ _ _ L5 (wo+5+1) (hi*hi/2^P+1) ((HS6.out.o2.reads.below I7.out nr_)) P5.out HL5.out.1 (by omega) (by omega) HL5.out.2) ?_
 rintro e w8 ⟨rfl,hb⟩
 have I8:Hid (Below w6.heap.size w6 w8):=I7.out.trans (hb.mono I7.out.size)
 clear hb I7 HRe
 go_wp2_with fail
 iterate 2 (refine RP.walkR_any ?_;simp only[dsc_,dz_,tsc_,tz_];go_big_quiet_step (fail);refine wpQuiet_nil ?_)
 simp only[RP.walkR]
 have HS8:=hd_ (HS6.out.below I8.out)
 have G8:=hd_ (grown_trans G6.out (grown_below (R:=R) I8.out))
 clear HS6 G6 I8
 generalize lo*lo/2^P=M at *
 generalize hi*hi/2^P+1=G at *
 generalize 2*2^P=u2 at *
 by_cases cA:u2≤M
 ·have cB:u2≤G:=Nat.le_trans cA Hmg.out
  have hst:st=some (true,M/2,G/2+1):=by rw[Hst.out,if_pos cA]
  subst hst
  rw[decide_eq_true cA,decide_eq_true cB]
  obtain⟨k0,k1,k2,kf⟩:=three_cells HS8.out.ob
  rw[HL2.out.1] at k0
  rw[HL5.out.1] at k1
  have q0:=NW.cell k0
  have q1:=NW.cell k1
  have hnon:Nonempty (NW w8):=⟨⟨w8,Below.refl _ _⟩⟩
  have I:Hid (Below w8.heap.size w8 w8.drew):=(Below.refl _ _).drew
  clear k2 kf
  go_wp2_with fail
  refine RP.wp_region_readers 15 [(2,0),(2,1),(2,2),(2,3),(2,4),(1,5),(2,7),(2,8),(2,9),(1,10),(0,6),(0,11),(0,12),(2,13),(2,14),(0,15),(2,16),(2,17),(0,18)] (fun w'=>∃ p:NW w8,w'=p.w) (by kernel_rfl) (by kernel_rfl) ?_ ?_
  ·exact⟨⟨_,I.out⟩,rfl⟩
  iterate 5 (refine RP.walkR_any ?_;simp only[dsc_,dz_,tsc_,tz_];go_big_quiet_step (fail);refine wpQuiet_nil ?_)
  iterate 1 (refine RP.walkR_read ?_;simp only[dsc_,dz_,tsc_,tz_];go_big_quiet_step (fail);refine wpQuiet_nil ?_)
  iterate 3 (refine RP.walkR_any ?_;simp only[dsc_,dz_,tsc_,tz_];go_big_quiet_step (fail);refine wpQuiet_nil ?_)
  iterate 1 (refine RP.walkR_read ?_;simp only[dsc_,dz_,tsc_,tz_];go_big_quiet_step (fail);refine wpQuiet_nil ?_)
  clear hnon q0 q1 k0 k1
  refine RP.walkR_move ?_
  simp only[dsc_,dz_,tsc_,tz_]
  go_wp2_with fail
  refine cm_ (HS1.out _ _ _ L2 (wo+5) M (HS8.out.o1.reads.below I.out nr_) P2.out HL2.out.1 (by omega) (by omega) HL2.out.2) ?_
  rintro e w9 ⟨b6,d6,L6,rfl,hl,ho,hp,hv,hb⟩
  have I9:Hid (Below w8.heap.size w8 w9):=I.out.trans (hb.mono I.out.size)
  have HL6:=hd_ (And.intro hl hv)
  have O6:=hd_ (ho.mono I.out.size)
  have P6:=hd_ hp
  clear hl ho hp hv hb I
  go_wp2_with fail
  refine⟨⟨⟨_,I9.out⟩,rfl⟩,?_⟩
  refine RP.walkR_move ?_
  simp only[dsc_,dz_,tsc_,tz_]
  go_wp2_with fail
  refine cm_ (HS1.out _ _ _ L5 (wo+5+1) G (HS8.out.o2.reads.below I9.out nr_) P5.out HL5.out.1 (by omega) (by omega) HL5.out.2) ?_
  rintro e w10 ⟨b7,d7,L7,rfl,hl,ho,hp,hv,hb⟩
  have I10:Hid (Below w8.heap.size w8 w10):=I9.out.trans (hb.mono I9.out.size)
  have O6':=hd_ (O6.out.below hb nr_)
  have HL7:=hd_ (And.intro hl hv)
  have O7:=hd_ ho
  have P7:=hd_ hp
  clear hl ho hp hv hb I9 O6
  go_wp2_with fail
  refine⟨⟨⟨_,I10.out⟩,rfl⟩,?_⟩
  refine RP.walkR_move ?_
  simp only[dsc_,dz_,tsc_,tz_]
  go_wp2_with fail
  refine cm_ (HNx.out _ _ _ L7 (wo+5+1) (G/2) O7.out.reads P7.out HL7.out.1 (by omega) (by omega) HL7.out.2) ?_
  rintro e w11 ⟨b8,d8,L8,rfl,hl,ho,hp,hv,hb⟩
  have I11:Hid (Below w8.heap.size w8 w11):=I10.out.trans (hb.mono I10.out.size)
  have O6:=hd_ (O6'.out.below hb nr_)
  have HL8:=hd_ (And.intro hl hv)
  have O8:=hd_ (ho.mono I10.out.size)
  have P8:=hd_ hp
  have HS11:=hd_ (HS8.out.below I11.out)
  obtain⟨k0,k1,k2,kf⟩:=three_cells HS11.out.ob
  have hf0:=kf 0
  have hf1:=kf 1
  have hR8:=hd_ (Nat.lt_of_lt_of_le hRs G8.out.size)
  clear hl ho hp hv hb HL7 O7 P7 I10 O6' HS8
  go_wp2_with fail
  refine⟨⟨⟨_,I11.out⟩,rfl⟩,?_⟩
  iterate 2 (refine RP.walkR_any ?_;simp only[dsc_,dz_,tsc_,tz_];go_big_quiet_step (fail);refine wpQuiet_nil ?_)
  refine RP.walkR_move ?_
  simp only[dsc_,dz_,tsc_,tz_]
  go_wp2_with fail
  iterate 2 (refine RP.walkR_any ?_;simp only[dsc_,dz_,tsc_,tz_];go_big_quiet_step (fail);refine wpQuiet_nil ?_)
  refine RP.walkR_move ?_
  simp only[dsc_,dz_,tsc_,tz_]
  go_wp2_with fail
  simp only[RP.walkR]
  have hput:=HS11.out.put hR8.out O6.out O8.out P6.out P8.out (grown_trans G8.out (grown_below (R:=R) I11.out))
  rw[HL6.out.1,HL8.out.1] at hput
  have HS12:=hd_ hput.1
  have G12:=hd_ hput.2
  have G8b:=hd_ G8.out.size
  clear hput HS11 O6 O8 hf0 hf1 I11 k0 k1 k2 kf G8
  generalize (w11.setCell ⟨R,0,none⟩ (.slice b6 (wo+5) d6)).setCell ⟨R,1,none⟩ (.slice b8 (wo+5+1+1) d8)=w12 at *
  obtain⟨k0,k1,k2,kf⟩:=three_cells HS12.out.ob
  rw[HL6.out.1] at k0
  rw[HL8.out.1] at k1
  have hcap1:wo+2≤d6:=by have:=HS12.out.o1.cap;rw[HL6.out.1] at this;omega
  have hcap2:wo+2≤d8:=by have:=HS12.out.o2.cap;rw[HL8.out.1] at this;omega
  have O1:=HS12.out.o1.cut (wo+2) (by rw[HL6.out.1];omega)
  have O2:=HS12.out.o2.cut (wo+2) (by rw[HL8.out.1];omega)
  have W1:=HS12.out.p1.take (wo+2)
  have W2:=HS12.out.p2.take (wo+2)
  have N1:(L6.take (wo+2)).length=wo+2:=by rw[List.length_take,HL6.out.1];omega
  have N2:(L8.take (wo+2)).length=wo+2:=by rw[List.length_take,HL8.out.1];omega
  have V1:vW (L6.take (wo+2))=M/2:=by rw[vW_take HS12.out.p1 (by rw[HL6.out.1];omega),HL6.out.2];exact Nat.mod_eq_of_lt (HFit.out _ rfl).1
  have V2:vW (L8.take (wo+2))=G/2+1:=by rw[vW_take HS12.out.p2 (by rw[HL8.out.1];omega),HL8.out.2];exact Nat.mod_eq_of_lt (HFit.out _ rfl).2
  have hput:=(HS12.out.below (below_drawn w12 1)).put hR8.out (O1.below (below_drawn w12 1) nr_) (O2.below (below_drawn w12 1) nr_) W1 W2 (grown_trans G12.out (grown_below (R:=R) (below_drawn w12 1)))
  rw[N1,N2] at hput
  have HF:=hd_ hput
  have HV:=hd_ (And.intro V1 V2)
  have HN:=hd_ (And.intro N1 N2)
  clear O1 O2 W1 W2 N1 N2 V1 V2 hput
  have hf0:(w12.drewN 1).frozen? ⟨R,0,none⟩=false:=kf 0
  have hf1:(w12.drewN 1).frozen? ⟨R,1,none⟩=false:=kf 1
  have q0:=NW.cell k0
  have q1:=NW.cell k1
  have hnon:Nonempty (NW w12):=⟨⟨w12,Below.refl _ _⟩⟩
  have I:Hid (Below w12.heap.size w12 w12.drew):=(Below.refl _ _).drew
  have hlt1:(wo:Int)+2≤(wo:Int)+5:=by omega
  have hlt2:(wo:Int)+2≤(wo:Int)+5+1+1:=by omega
  have hm1:min (5:Int) 2=2:=by decide
  have hm2:min ((wo:Int)+5+1+1) ((wo:Int)+2)=(wo:Int)+2:=by omega
  have htn:((wo:Int)+2).toNat=wo+2:=by omega
  go_wp2_with fail
  refine RP.wp_region_readers 28 [(2,0),(2,1),(2,2),(2,3),(2,4),(1,5),(2,6),(2,7),(2,8),(1,9),(2,10),(2,11),(2,12),(2,13),(2,14),(2,15),(2,16),(1,17),(2,18),(2,19),(2,20),(1,21),(2,22),(2,23),(2,24),(2,25),(2,26),(2,27),(0,28),(2,29),(2,30),(0,31)] (fun w'=>∃ p:NW w12,w'=p.w) (by kernel_rfl) (by kernel_rfl) ?_ ?_
  ·exact⟨⟨_,I.out⟩,rfl⟩
  iterate 5 (refine RP.walkR_any ?_;simp only[dsc_,dz_,tsc_,tz_];go_big_quiet_step (fail);refine wpQuiet_nil ?_)
  iterate 1 (refine RP.walkR_read ?_;simp only[dsc_,dz_,tsc_,tz_];go_big_quiet_step (fail);refine wpQuiet_nil ?_)
  iterate 3 (refine RP.walkR_any ?_;simp only[dsc_,dz_,tsc_,tz_];go_big_quiet_step (fail);refine wpQuiet_nil ?_)
  iterate 1 (refine RP.walkR_read ?_;simp only[dsc_,dz_,tsc_,tz_];go_big_quiet_step (fail);refine wpQuiet_nil ?_)
  iterate 7 (refine RP.walkR_any ?_;simp only[dsc_,dz_,tsc_,tz_];go_big_quiet_step (fail);refine wpQuiet_nil ?_)
  iterate 1 (refine RP.walkR_read ?_;simp only[dsc_,dz_,tsc_,tz_];go_big_quiet_step (fail);refine wpQuiet_nil ?_)
  iterate 3 (refine RP.walkR_any ?_;simp only[dsc_,dz_,tsc_,tz_];go_big_quiet_step (fail);refine wpQuiet_nil ?_)
  iterate 1 (refine RP.walkR_read ?_;simp only[dsc_,dz_,tsc_,tz_];go_big_quiet_step (fail);refine wpQuiet_nil ?_)
  iterate 6 (refine RP.walkR_any ?_;simp only[dsc_,dz_,tsc_,tz_];go_big_quiet_step (fail);refine wpQuiet_nil ?_)
  iterate 1 (refine RP.walkR_move ?_;simp only[dsc_,dz_,tsc_,tz_];go_wp2_with fail)
  iterate 2 (refine RP.walkR_any ?_;simp only[dsc_,dz_,tsc_,tz_];go_big_quiet_step (fail);refine wpQuiet_nil ?_)
  iterate 1 (refine RP.walkR_move ?_;simp only[dsc_,dz_,tsc_,tz_];go_wp2_with fail)
  simp only[RP.walkR]
  go_wp2_with fail
  go_ret2
  refine⟨HF.out.2,rfl,⟨_,_,_,_,_,_,HF.out.1.mono (Nat.le_trans hB G8b.out),hBR,?_,?_,HV.out.1,HV.out.2⟩⟩
  ·rw[Hwo.out];exact HN.out.1
  ·rw[Hwo.out];exact HN.out.2
 ·by_cases cB:u2≤G
  ·have hst:st=none:=by rw[Hst.out,if_neg cA,if_pos cB]
   subst hst
   rw[decide_eq_false cA,decide_eq_true cB]
   go_wp2_with fail
   go_ret2
   exact⟨G8.out,rfl⟩
  ·have hst:st=some (false,M,G):=by rw[Hst.out,if_neg cA,if_neg cB]
   subst hst
   rw[decide_eq_false cA,decide_eq_false cB]
   obtain⟨k0,k1,k2,kf⟩:=three_cells HS8.out.ob
   rw[HL2.out.1] at k0
   rw[HL5.out.1] at k1
   have hcap1:wo+2≤d2:=by have:=HS8.out.o1.cap;rw[HL2.out.1] at this;omega
   have hcap2:wo+2≤d5:=by have:=HS8.out.o2.cap;rw[HL5.out.1] at this;omega
   have O1:=HS8.out.o1.cut (wo+2) (by rw[HL2.out.1];omega)
   have O2:=HS8.out.o2.cut (wo+2) (by rw[HL5.out.1];omega)
   have W1:=HS8.out.p1.take (wo+2)
   have W2:=HS8.out.p2.take (wo+2)
   have N1:(L2.take (wo+2)).length=wo+2:=by rw[List.length_take,HL2.out.1];omega
   have N2:(L5.take (wo+2)).length=wo+2:=by rw[List.length_take,HL5.out.1];omega
   have V1:vW (L2.take (wo+2))=M:=by rw[vW_take HS8.out.p1 (by rw[HL2.out.1];omega),HL2.out.2];exact Nat.mod_eq_of_lt (HFit.out _ rfl).1
   have V2:vW (L5.take (wo+2))=G:=by rw[vW_take HS8.out.p2 (by rw[HL5.out.1];omega),HL5.out.2];exact Nat.mod_eq_of_lt (HFit.out _ rfl).2
   have hput:=(HS8.out.below (below_drawn w8 1)).put hRs (O1.below (below_drawn w8 1) nr_) (O2.below (below_drawn w8 1) nr_) W1 W2 (grown_trans G8.out (grown_below (R:=R) (below_drawn w8 1)))
   rw[N1,N2] at hput
   have HF:=hd_ hput
   have HV:=hd_ (And.intro V1 V2)
   have HN:=hd_ (And.intro N1 N2)
   clear O1 O2 W1 W2 N1 N2 V1 V2 hput
   have hf0:(w8.drewN 1).frozen? ⟨R,0,none⟩=false:=kf 0
   have hf1:(w8.drewN 1).frozen? ⟨R,1,none⟩=false:=kf 1
   have q0:=NW.cell k0
   have q1:=NW.cell k1
   have hnon:Nonempty (NW w8):=⟨⟨w8,Below.refl _ _⟩⟩
   have I:Hid (Below w8.heap.size w8 w8.drew):=(Below.refl _ _).drew
   have hlt1:(wo:Int)+2≤(wo:Int)+5:=by omega
   have hlt2:(wo:Int)+2≤(wo:Int)+5+1:=by omega
   have hm1:min (5:Int) 2=2:=by decide
   have hm2:min ((wo:Int)+5+1) ((wo:Int)+2)=(wo:Int)+2:=by omega
   have htn:((wo:Int)+2).toNat=wo+2:=by omega
   go_wp2_with fail
   refine RP.wp_region_readers 28 [(2,0),(2,1),(2,2),(2,3),(2,4),(1,5),(2,6),(2,7),(2,8),(1,9),(2,10),(2,11),(2,12),(2,13),(2,14),(2,15),(2,16),(1,17),(2,18),(2,19),(2,20),(1,21),(2,22),(2,23),(2,24),(2,25),(2,26),(2,27),(0,28),(2,29),(2,30),(0,31)] (fun w'=>∃ p:NW w8,w'=p.w) (by kernel_rfl) (by kernel_rfl) ?_ ?_
   ·exact⟨⟨_,I.out⟩,rfl⟩
   iterate 5 (refine RP.walkR_any ?_;simp only[dsc_,dz_,tsc_,tz_];go_big_quiet_step (fail);refine wpQuiet_nil ?_)
   iterate 1 (refine RP.walkR_read ?_;simp only[dsc_,dz_,tsc_,tz_];go_big_quiet_step (fail);refine wpQuiet_nil ?_)
   iterate 3 (refine RP.walkR_any ?_;simp only[dsc_,dz_,tsc_,tz_];go_big_quiet_step (fail);refine wpQuiet_nil ?_)
   iterate 1 (refine RP.walkR_read ?_;simp only[dsc_,dz_,tsc_,tz_];go_big_quiet_step (fail);refine wpQuiet_nil ?_)
   iterate 7 (refine RP.walkR_any ?_;simp only[dsc_,dz_,tsc_,tz_];go_big_quiet_step (fail);refine wpQuiet_nil ?_)
   iterate 1 (refine RP.walkR_read ?_;simp only[dsc_,dz_,tsc_,tz_];go_big_quiet_step (fail);refine wpQuiet_nil ?_)
   iterate 3 (refine RP.walkR_any ?_;simp only[dsc_,dz_,tsc_,tz_];go_big_quiet_step (fail);refine wpQuiet_nil ?_)
   iterate 1 (refine RP.walkR_read ?_;simp only[dsc_,dz_,tsc_,tz_];go_big_quiet_step (fail);refine wpQuiet_nil ?_)
   iterate 6 (refine RP.walkR_any ?_;simp only[dsc_,dz_,tsc_,tz_];go_big_quiet_step (fail);refine wpQuiet_nil ?_)
   iterate 1 (refine RP.walkR_move ?_;simp only[dsc_,dz_,tsc_,tz_];go_wp2_with fail)
   iterate 2 (refine RP.walkR_any ?_;simp only[dsc_,dz_,tsc_,tz_];go_big_quiet_step (fail);refine wpQuiet_nil ?_)
   iterate 1 (refine RP.walkR_move ?_;simp only[dsc_,dz_,tsc_,tz_];go_wp2_with fail)
   simp only[RP.walkR]
   go_wp2_with fail
   go_ret2
   refine⟨HF.out.2,rfl,⟨_,_,_,_,_,_,HF.out.1.mono hB,hBR,?_,?_,HV.out.1,HV.out.2⟩⟩
   ·rw[Hwo.out];exact HN.out.1
   ·rw[Hwo.out];exact HN.out.2
def bools (l:List Bool):List Value:=l.map Value.bool
theorem bools_length(l:List Bool):(bools l).length=l.length:=by simp[bools]
theorem bools_append(l m:List Bool):bools (l++m)=bools l++bools m:=by simp[bools]
theorem bools_get(l:List Bool)(j:Nat)(h:j<l.length):(bools l)[j]?=some (.bool (l.getD j false)):=by
 simp[bools,List.getD_eq_getElem?_getD,h]
theorem infoBo:(Tryz.prog.info? 4).map (fun i=>(i.zero,i.size,i.bytes))=some (some (.bool false),1,1):=by kernel_rfl
theorem elBo:ElemOf Tryz.prog 74 4 (.bool false) 1 1:=⟨Tryz.underlying74,info_parts infoBo,rfl,by decide⟩
def OwnBo (w:World) (B:Nat) (a:Option Addr) (c:Nat) (l:List Bool):Prop:=w.ownsRow B 4 1 (.slice a l.length c) l.length (bools l)
structure BoI (w:World) (B:Nat) (a:Option Addr) (c:Nat) (l:List Bool):Prop where
 own:OwnBo w B a c l
 fst:∀ k,(Value.slice a l.length c).ownBlock=some k→∃ b,w.cell? ⟨k,0,none⟩=some (.bool b)
theorem BoI.nil(w:World)(B:Nat):BoI w B none 0 []:=⟨World.ownsRow_nil ..,fun k h=>by simp[Value.ownBlock] at h⟩
theorem BoI.of{w:World}{B:Nat}{a:Option Addr}{c:Nat}{l:List Bool}(h:OwnBo w B a c l)(h0:0<l.length):BoI w B a c l:=by
 refine⟨h,fun k hk=>?_⟩
 obtain⟨g,cap,hv,h1,h2,h3,h4,h5⟩:=own_open h h0
 simp only[Value.slice.injEq] at hv
 obtain⟨rfl,-,rfl⟩:=hv
 have e:g=k:=by simpa [Value.ownBlock] using hk
 subst e
 have:=h4 0 (by omega)
 rw[bools_get l 0 h0] at this
 exact⟨_,this⟩
theorem BoI.grown{w w':World}{B R:Nat}{a:Option Addr}{c:Nat}{l:List Bool}(h:BoI w B a c l)(hg:w.grownBy w' (some R))(hR:∀ b,w.cell? ⟨R,0,none⟩≠some (.bool b)):BoI w' B a c l:=by
 have hne:∀ k,(Value.slice a l.length c).ownBlock=some k→k≠R:=fun k hk e=>by
  obtain⟨b,hb⟩:=h.fst k hk
  rw[e] at hb
  exact hR b hb
 refine⟨World.ownsRow.kept h.own hg ?_,fun k hk=>?_⟩
 ·cases hv:(Value.slice a l.length c).ownBlock with
  | none=>simp
  | some k=>exact .inr fun e=>by cases e;exact hne _ hv rfl
 ·obtain⟨b,hb⟩:=h.fst k hk
  refine⟨b,?_⟩
  have hs:=block_lt_of_cell hb
  have hbl:=hg.block k hs (fun e=>hne k hk (by cases e;rfl))
  unfold World.cell? at hb ⊢
  simp only at hb hbl ⊢
  rw[hbl];exact hb
theorem MaAt.notBool{w:World}{B R P lo hi:Nat}(h:MaAt w B R P lo hi):∀ b,w.cell? ⟨R,0,none⟩≠some (.bool b):=fun b hb=>by
 obtain⟨a1,c1,L,a2,c2,H,S,-⟩:=h
 rw[(three_cells S.ob).1] at hb
 cases hb
theorem MaAt.kept{w w':World}{B R P lo hi:Nat}(h:MaAt w B R P lo hi){row:Option Nat}(hg:w.grownBy w' row)(hrow:∀ k,row=some k→∃ b,w.cell? ⟨k,0,none⟩=some (.bool b)):MaAt w' B R P lo hi:=by
 obtain⟨a1,c1,L,a2,c2,H,S,hB,l1,l2,v1,v2⟩:=h
 have key:∀ (a:Option Addr) (c:Nat) (l:List Nat),l.length=P/64+2→OwnU w B a c l→OwnU w' B a c l:=fun a c l hl ho=>by
  refine World.ownsRow.kept ho hg ?_
  obtain⟨g,rfl,h1,h2,h3,h4,h5⟩:=ho.open (by omega)
  right
  intro e
  obtain⟨b,hb⟩:=hrow g (show row=some g from e.symm)
  rw[h4 0 (by omega)] at hb
  cases hb
 refine⟨a1,c1,L,a2,c2,H,⟨?_,key _ _ _ l1 S.o1,key _ _ _ l2 S.o2,S.p1,S.p2⟩,hB,l1,l2,v1,v2⟩
 rw[hg.block R (Array.getElem?_eq_some_iff.1 S.ob).1 (fun e=>?_)]
 ·exact S.ob
 ·obtain⟨b,hb⟩:=hrow R e.symm
  rw[(three_cells S.ob).1] at hb
  cases hb
def DgOut (w w':World) (p P n:Nat) (e:Ending):Prop :=
 Below w.heap.size w w'∧match digs p P n with
  | some _=>∃ a c,e = .returned (.tuple #[.slice a n c,.bool true])∧OwnBo w' w.heap.size a c (bitsE p P n)
  | none=>e = .returned (.tuple #[.slice none 0 0,.bool false])
structure DgI (w wr:World) (R p P n j lo hi o:Nat) (a:Option Addr) (c:Nat):Prop where
 dg:digs p P j=some (lo,hi,o)
 ma:MaAt wr w.heap.size R P lo hi
 bo:BoI wr w.heap.size a c (bitsE p P j)
 bel:Below w.heap.size w wr
theorem edigits_any(w:World)(p n P:Nat)(hp:2≤p)(hp2:p≤97)(hl:p.log2≤6)(hn:n≤1000)(hP:n+64≤P)(hP2:P≤1300):
  Calls Tryz.prog 139 #[.int .i64 p,.int .i64 p.log2,.int .i64 n,.int .i64 P] w fun e w'=>DgOut w w' p P n e:=by
 have HB:=hd_ (begin_any w p p.log2 P (by omega) (by omega) (by omega))
 have H0:Hid (digs p P 0=some (p*2^(P-p.log2),p*2^(P-p.log2),p.log2)):=rfl
 have Hbit:Hid (∀ W R j lo hi o,w.heap.size≤W.heap.size→j<n→digs p P j=some (lo,hi,o)→MaAt W w.heap.size R P lo hi→Calls Tryz.prog 196 #[.pointer (some ⟨R,0,none⟩)] W fun e w'=>BitOut W w' w.heap.size R P (stepE (2^P) lo hi) e):=fun W R j lo hi o hW hj hd hM=>by
  refine bit_any W w.heap.size R P lo hi hM (by omega) hW (digs_le j _ hd) fun x hx=>?_
  have h1:=(step_some (b:=x.1) (l':=x.2.1) (g':=x.2.2) hd hx).1
  have h2:=digs_cap (P:=P) (by omega) (by omega) (j+1) (by omega) (by omega) _ h1
  have h3:=digs_le (j+1) _ h1
  have h4:=fit_words (P:=P) (n:=j+1) (by omega) (by omega) h2
  exact⟨Nat.lt_of_le_of_lt h3 h4,h4⟩
 generalize hk:p.log2=k at *
 have Hk:=hd_ hk
 clear hk
 go_enter Tryz.func139,Tryz.ntmps139
 go_wp2_with fail
 refine cm_ HB.out ?_
 rintro e w1 ⟨R,rfl,hM,hb⟩
 have HD0:Hid (DgI w w1 R p P n 0 _ _ _ none 0):=⟨H0.out,hM,BoI.nil _ _,hb⟩
 clear hM hb HB H0
 go_wp2_with fail
 go_loopw [11,19] (fun v i wr=>∃ (j lo hi o:Nat) (a:Option Addr) (c:Nat),j≤n∧i = .int .i64 j∧v = .slice a j c∧Hid (DgI w wr R p P n j lo hi o a c)) (fun _ i _=>n-(intOf i).toNat)
 case atStart=>exact⟨0,_,_,_,none,0,Nat.zero_le _,rfl,rfl,HD0⟩
 case round =>
  obtain⟨j,lo,hi,o,a,c,hj,rfl,rfl,HD⟩:=hrel
  clear HD0
  by_cases hlt:j<n
  ·have hlt':(j:Int)<n:=by omega
   have hjw:IntKind.i64.wrap ((j:Int)+1)=((j+1:Nat):Int):=by rw[← Int.natCast_succ];exact iw_ _ (by omega)
   go_wp2_with fail
   refine cm_ (Hbit.out _ R j lo hi o HD.out.bel.size hlt HD.out.dg HD.out.ma) ?_
   rintro e w2 ⟨hg,hm⟩
   have hBR:w.heap.size≤R:=by obtain⟨_,_,_,_,_,_,-,h,-⟩:=HD.out.ma;exact h
   have B2:=hd_ (HD.out.bel.grown hg HD.out.bel.size (fun k hk=>by cases hk;exact hBR))
   have BO2:=hd_ (HD.out.bo.grown hg HD.out.ma.notBool)
   have Hsz:=hd_ B2.out.size
   cases hst:stepE (2^P) lo hi with
   | none =>
    rw[hst] at hm
    obtain rfl:=hm
    have Hnone:Hid (digs p P n=none):=digs_none (step_none HD.out.dg hst) hlt
    clear hg hst HD Hbit BO2
    go_wp2_with fail
    go_ret2
    refine⟨B2.out,?_⟩
    rw[Hnone.out]
    rfl
   | some x =>
    rw[hst] at hm
    obtain⟨rfl,hM⟩:=hm
    obtain⟨x1,x2,x3⟩:=x
    obtain⟨hd2,hb2⟩:=step_some HD.out.dg hst
    have Hd2:=hd_ hd2
    have Hb2:=hd_ hb2
    have HM:=hd_ hM
    clear hg hst HD hM hd2 hb2
    have Hown:Hid (w2.ownsRow w.heap.size 4 1 (.slice a j c) j (bools (bitsE p P j))):=by
     have:=BO2.out.own
     unfold OwnBo at this
     rw[bitsE_length] at this
     exact this
    have Hfst:Hid (∀ k,(Value.slice a j c).ownBlock=some k→∃ b,w2.cell? ⟨k,0,none⟩=some (.bool b)):=by
     have:=BO2.out.fst
     rw[bitsE_length] at this
     exact this
    clear BO2
    go_wp2_with (at_builtin;refine wpList_append_new rfl (.tmp 28) (.tmp 30) 74 rfl elBo _ 1 [.bool x1] rfl rfl Hown.out Hsz.out rfl (by simp[Value.oneCell']) (by omega) (by omega) ?_)
    intro v' w3 hown hgrow hnil
    obtain⟨a3,d3,rfl⟩:=own_form hown
    have BO3:Hid (OwnBo w3 w.heap.size a3 d3 (bitsE p P (j+1))):=by
     show OwnBo _ _ _ _ _
     unfold OwnBo
     rw[bitsE_length,bitsE_succ,bools_append,Hb2.out]
     exact hown
    have M3:=hd_ ((show MaAt (w2.alloc (.cells #[.bool x1] 4)) w.heap.size R P x2 x3 from by
     obtain⟨a1,c1,L,a2,c2,H,S,h1,h2,h3,h4,h5⟩:=HM.out
     exact⟨a1,c1,L,a2,c2,H,S.below ((Below.refl _ _).alloc nr_ _),h1,h2,h3,h4,h5⟩).kept hgrow (fun k hk=>by
      obtain⟨b,hb⟩:=Hfst.out k hk
      exact⟨b,Lib.cell?_alloc_some _ hb⟩))
    have B3:=hd_ ((B2.out.alloc Hsz.out (.cells #[.bool x1] 4)).grown hgrow (by simp;have:=Hsz.out;omega) (fun k hk=>(World.ownsRow.lt Hown.out k hk).1))
    clear hown hgrow hnil HM Hown Hfst B2
    go_wp2_with fail
    go_roundw
    case rel=>exact⟨j+1,x2,x3,_,a3,d3,by omega,by go_num,rfl,⟨Hd2.out,M3.out,BoI.of BO3.out (by rw[bitsE_length];omega),B3.out⟩⟩
    case measure=>simp[intOf];omega
  ·have hjn:j=n:=by omega
   subst hjn
   have hlt':¬ (j:Int)<j:=by omega
   have Hown:Hid (OwnBo wr w.heap.size a c (bitsE p P j)):=HD.out.bo.own
   go_wp2_with fail
   go_ret2
   refine⟨HD.out.bel,?_⟩
   rw[HD.out.dg]
   exact⟨a,c,rfl,Hown.out⟩
theorem rd_take{w:World}{a:Option Addr}{V:List Value}(h:Rd w a V)(m:Nat):Rd w a (V.take m):=by
 rcases h with rfl|⟨b,off,h1,h2,h3⟩
 ·left;simp
 ·refine .inr ⟨b,off,h1,h2,fun i v hi=>h3 i v ?_⟩
  rw[List.getElem?_take] at hi
  split at hi
  ·exact hi
  ·cases hi
theorem rd_from{w:World}{b o d:Nat}{V:List Value}(h:Rd w (some ⟨b,o,none⟩) V)(m:Nat)(hd:V.length≤d):Rd w (if d=m then some ⟨b,o,none⟩ else some ⟨b,o+m,none⟩) (V.drop m):=by
 split
 ·left
  rw[List.drop_of_length_le (by omega)]
 ·rcases h with rfl | ⟨b',off,h1,h2,h3⟩
  ·left;simp
  ·simp only[Option.some.injEq,Addr.mk.injEq,and_true] at h1
   obtain⟨rfl,rfl⟩:=h1
   refine .inr ⟨b,o+m,rfl,h2,fun i v hi=>?_⟩
   rw[List.getElem?_drop] at hi
   rw[Nat.add_assoc]
   exact h3 (m+i) v hi
structure DigF (n:Nat) (bl:List Bool) (F:Nat→Nat):Prop where
 len:bl.length=n
 nxt:∀ j,j<n→F (j+1)=2*F j+(bl.getD j false).toNat
 sm:∀ j,j≤n→F j<2^(j+3)
theorem digF_odd{p P n:Nat}(hp:2≤p)(hp2:p≤97)(hP:64≤P){s:Nat×Nat×Nat}(h:digs p P n=some s):∃ F,DigF n (bitsE p P n) F∧F 0=p.log2∧F n=s.2.2:=by
 refine⟨fun j=>match digs p P j with | some s=>s.2.2 | none=>0,⟨bitsE_length p P n,fun j hj=>?_,fun j hj=>?_⟩,rfl,?_⟩
 ·have h1:(digs p P (j+1)).isSome:=digs_fewer hj (by rw[h];rfl)
  have h0:(digs p P j).isSome:=digs_fewer (Nat.le_of_lt hj) (by rw[h];rfl)
  obtain⟨t,ht⟩:=Option.isSome_iff_exists.1 h1
  obtain⟨u,hu⟩:=Option.isSome_iff_exists.1 h0
  simp only[ht,hu]
  rw[bitsE_get p P n j hj]
  exact digs_bit hu ht
 ·have h0:(digs p P j).isSome:=digs_fewer hj (by rw[h];rfl)
  obtain⟨u,hu⟩:=Option.isSome_iff_exists.1 h0
  simp only[hu]
  exact(digs_b p P hp hp2 hP j _ hu).out
 ·simp only[h]
theorem digF_two(n:Nat):DigF n (List.replicate n false) (fun j=>2^j):=by
 refine⟨by simp,fun j hj=>?_,fun j hj=>Nat.pow_lt_pow_right (by decide) (by omega)⟩
 have:(List.replicate n false).getD j false=false:=by rw[List.getD_eq_getElem?_getD,List.getElem?_replicate];split<;>rfl
 rw[this,Nat.pow_succ]
 show _=_+0
 omega
/-! The walk. -/
def K10:Nat:=1010
theorem k10:K10=1010:=rfl
theorem made_b(n:Nat)(w:World)(hn:n≤100000000):
  (Instr.makeSlice 74 (.int .i64 (n:Int)) (.int .i64 (n:Int))).run Tryz.prog w = .ok (.slice (some ⟨w.heap.size,0,none⟩) n n) (w.alloc (.cells (bools (List.replicate n false)).toArray 4)):=by
 have:=run_make_row' (P:=Tryz.prog) 74 4 (.bool false) 1 Tryz.underlying74 infoBo rfl .i64 .i64 n (by omega) (by omega) w
 rw[show madeCells #[.bool false] n=(bools (List.replicate n false)).toArray by apply Array.ext';rw[toList_madeCells_one];simp[bools]] at this
 exact this
theorem rd_made_b(w:World)(l:List Bool):Rd (w.alloc (.cells (bools l).toArray 4)) (some ⟨w.heap.size,0,none⟩) (bools l) :=
 .inr ⟨w.heap.size,0,rfl,by simp,fun i v hi=>by
  rw[Nat.zero_add,cell_of_row _ w.heap.size i _ 4 (0,0) (heap_alloc_new w _)]
  simpa using hi⟩
theorem own_rd_b{w:World}{B:Nat}{a:Option Addr}{c:Nat}{l:List Bool}(h:OwnBo w B a c l):Rd w a (bools l):=by
 by_cases hn:0<l.length
 ·obtain⟨g,cap,hv,h1,h2,h3,h4,h5⟩:=own_open h hn
  simp only[Value.slice.injEq] at hv
  obtain⟨rfl,-,-⟩:=hv
  refine .inr ⟨g,0,rfl,h2,fun i v hi=>?_⟩
  have hlt:=(List.getElem?_eq_some_iff.1 hi).1
  rw[bools_length] at hlt
  rw[Nat.zero_add,h4 i (by omega)];exact hi
 ·obtain rfl:=List.length_eq_zero_iff.1 (Nat.eq_zero_of_not_pos hn)
  exact .inl rfl
structure LoI (w wr:World) (n:Nat) (bl:List Bool) (j:Nat) (a:Option Addr) (c:Nat):Prop where
 rd:Rd wr a (bools (bl.drop j))
 cap:n-j≤c
 bel:Below w.heap.size w wr
theorem elow_any(w:World)(p n:Nat)(hp:p=2∨p∈oddP)(hn:n≤1000)(L:Laid w):
  Gives Tryz.prog 67 #[.int .i64 p,.int .i64 n] w (.string (dec (lgN p n))):=by
 unfold Gives
 have hp1:2≤p:=by
  rcases hp with h|h
  ·omega
  ·have:=oddP_odd h;have:=oddP_log h;omega
 have hp2:p≤97:=by
  rcases hp with h|h
  ·omega
  ·have:=oddP_odd h;omega
 have hl:=log2_le p hp1 hp2
 have hln:=hd_ (Tryz.bits_Len p w (by omega) (by omega))
 rw[show ((p:Nat):Int).toNat=p from rfl,bitLen_log p (by omega) hp2] at hln
 have hw1:IntKind.i64.wrap (((p.log2+1:Nat):Int)-1)=(p.log2:Int):=by rw[show ((p.log2+1:Nat):Int)-1=(p.log2:Int) by omega];exact iw_ _ (by omega)
 have hw2:IntKind.u64.wrap (p:Int)=p:=IntWalk.u64_in _ (by omega)
 have HL:=hd_ L
 clear L
 have Hof:Hid (∀ (z:Nat) W,z≤1000000000→Below w.heap.size w W→Gives Tryz.prog 73 #[.int .i64 z] W (.string (dec z))):=fun z W hz hW=>by
  have:=ofz_any W z (by omega) (by omega) (HL.out.below hW)
  rw[itx_nat] at this;exact this
 have Hmul:Hid (∀ (x g:Nat) W,x<2^K10→g≤28→Below w.heap.size w W→Gives Tryz.prog 115 #[.string (dec x),.string (dec (2^g))] W (.string (dec (x*2^g)))):=fun x g W hx hg hW =>
  mulD W x (2^g) K10 (by decide) hx (Nat.pow_lt_pow_right (by decide) (by rw[k10];omega)) (HL.out.below hW)
 have Hadd:Hid (∀ (x a g:Nat) W,x<2^K10→g≤28→a<2^g→Below w.heap.size w W→Gives Tryz.prog 20 #[.string (dec (x*2^g)),.string (dec a)] W (.string (dec (x*2^g+a)))):=fun x a g W hx hg ha hW=>by
  refine addD W (x*2^g) a (K10+90) (by decide) ?_ ?_ (HL.out.below hW)
  ·refine Nat.lt_of_lt_of_le (Nat.mul_lt_mul_of_pos_right hx (Nat.two_pow_pos g)) ?_
   rw[← Nat.pow_add]
   exact Nat.pow_le_pow_right (by decide) (by omega)
  ·exact Nat.lt_of_lt_of_le ha (Nat.pow_le_pow_right (by decide) (by rw[k10];omega))
 have Hdg:Hid (p≠2→∀ (P:Nat) W,n+64≤P→P≤1300→Calls Tryz.prog 139 #[.int .i64 p,.int .i64 p.log2,.int .i64 n,.int .i64 P] W fun e w'=>DgOut W w' p P n e):=fun _ P W h1 h2=>edigits_any W p n P hp1 hp2 hl hn h1 h2
 have Hok:Hid (∀ P,p≠2→1120≤P→digs p P n≠none):=fun P h1 h2 h3=>by
  have:=digs_ok (hp.resolve_left h1) (show n≤1056 by omega) h2
  rw[h3] at this
  cases this
 have Hlg:Hid (∀ (P:Nat) s,p≠2→64≤P→digs p P n=some s→s.2.2=lgN p n):=fun P s h1 h2 h3=>digs_lgN (hp.resolve_left h1) (by omega) (by omega) h3
 have Hlg2:Hid (p=2→lgN p n=2^n):=fun h=>by rw[h];exact lgN_two n
 have Hp1:=hd_ hp1
 have Hp2:=hd_ hp2
 have Hn:=hd_ hn
 have hpb:p≤97:=hp2
 have hnb:n≤1000:=hn
 obtain⟨v,hv⟩:∃ v,lgN p n=v:=⟨_,rfl⟩
 rw[hv] at Hlg Hlg2 ⊢
 clear hv hp hp1 hp2 hn
 generalize hk:p.log2=k at *
 have Hk:=hd_ hk
 clear hk
 go_enter Tryz.func67,Tryz.ntmps67
 go_wp2_with fail
 refine cm_ hln.out ?_
 rintro e w1 ⟨rfl,hw1e⟩
 clear hln
 go_wp2_with fail
 clear hw1e
 refine cm_ (Hof.out k w (by omega) (Below.refl _ _)) ?_
 rintro e w2 ⟨rfl,hb⟩
 have B2:=hd_ hb
 clear hb
 by_cases h2:p=2
 ·have Hv:Hid (v=2^n):=Hlg2.out h2
  have Hk1:Hid (k=1):=by
   show _=_
   rw[← Hk.out,h2];decide +kernel
  subst h2
  have hmk:=made_b n w2 (by omega)
  have Hrd:=hd_ (rd_made_b w2 (List.replicate n false))
  have B3:=hd_ (B2.out.alloc B2.out.size (.cells (bools (List.replicate n false)).toArray 4))
  generalize w2.alloc (.cells (bools (List.replicate n false)).toArray 4)=w3 at *
  clear B2 Hdg Hok Hlg Hlg2
  go_wp2_with fail
  go_loopw [7,8] (fun l q wr=>l = .slice (some ⟨w2.heap.size,0,none⟩) n n∧q = .int .i64 ((n:Int)+64)∧Hid (wr=w3)) (fun _ _ _=>0)
  case atStart=>exact⟨rfl,rfl,rfl⟩
  case round =>
   obtain⟨rfl,rfl,hwr⟩:=hrel
   obtain rfl:=hwr.out
   clear hwr
   obtain⟨F,hF⟩:∃ F:Nat→Nat,F=fun j=>2^j:=⟨_,rfl⟩
   obtain⟨bl,hbl⟩:∃ bl,bl=List.replicate n false:=⟨_,rfl⟩
   have HF:Hid (DigF n bl F):=by show DigF n bl F;rw[hbl,hF];exact digF_two n
   have HFk:Hid (F 0=k):=by show _=_;rw[hF,Hk1.out]
   have HFn:Hid (F n=v):=by show _=_;rw[hF,Hv.out]
   have HR:Hid (LoI w wr n bl 0 (some ⟨w2.heap.size,0,none⟩) n):=⟨by rw[List.drop_zero,hbl];exact Hrd.out,by omega,B3.out⟩
   clear hF hbl Hv Hk1 Hrd B3
   go_wp2_with fail
   go_loopw [6,7] (fun s l wr=>∃ (j:Nat) (a:Option Addr) (c:Nat),j≤n∧s = .string (dec (F j))∧l = .slice a (n-j) c∧Hid (LoI w wr n bl j a c)) (fun _ l _=>match l with | .slice _ m _=>m | _=>0)
   case atStart=>exact⟨0,_,_,Nat.zero_le _,by rw[HFk.out],by rw[Nat.sub_zero],HR⟩
   case round =>
    clear HR
    obtain⟨j,a,c,hj,rfl,rfl,HI⟩:=hrel
    obtain⟨m,hm⟩:∃ m,n-j=m:=⟨_,rfl⟩
    have hmb:m≤1000:=by omega
    rw[hm]
    by_cases hlt:0<m
    ·have hlt':(0:Int)<m:=by omega
     obtain⟨g,hg⟩:∃ g,min m 28=g:=⟨_,rfl⟩
     have hg28:g≤28:=by omega
     have hgm:g≤m:=by omega
     have hg0:0<g:=by omega
     have hmin:min (m:Int) 28=(g:Nat):=by omega
     have hcap:g≤c:=by have:=HI.out.cap;omega
     have Hjg:=hd_ (show j+g≤n by omega)
     obtain⟨b,off,rfl,hb1,hcell⟩:=HI.out.rd.open (by rw[bools_length,List.length_drop,HF.out.len];omega)
     have Hcell:Hid (∀ t,t<g→wr.cell? ⟨b,off+t,none⟩=some (.bool (bl.getD (j+t) false))):=fun t ht=>by
      refine hcell t _ ?_
      rw[bools_get _ _ (by rw[List.length_drop,HF.out.len];omega)]
      rw[List.getD_eq_getElem?_getD,List.getD_eq_getElem?_getD,List.getElem?_drop]
     clear hcell
     obtain⟨wo,hwo⟩:∃ wo:World,wo=wr:=⟨_,rfl⟩
     subst hwo
     go_wp2_with fail
     go_loopw [11,49] (fun ad i wr=>∃ t x:Nat,t≤g∧i = .int .i64 t∧ad = .int .i64 x∧x<268435456∧Hid (x<2^t∧F (j+t)=F j*2^t+x)∧Hid (Below wo.heap.size wo wr)) (fun _ i _=>g-(intOf i).toNat)
     case atStart=>exact⟨0,0,Nat.zero_le _,rfl,rfl,by decide,⟨by decide,by simp⟩,Below.refl _ _⟩
     case round =>
      obtain⟨t,x,ht,rfl,rfl,hx,HX,HB⟩:=hrel
      by_cases hlt2:t<g
      ·have hlt2':(t:Int)<g:=by omega
       have cb:=Hcell.out t hlt2
       rw[← HB.out.cell (p:=⟨b,off+t,none⟩) hb1] at cb
       have hnx:=HF.out.nxt (j+t) (by have:=Hjg.out;omega)
       have hxt:=HX.out.1
       have hpt:2^(t+1)≤268435456:=Nat.le_trans (Nat.pow_le_pow_right (by decide) (show t+1≤28 by omega)) (by decide)
       have hps:2^(t+1)=2*2^t:=by rw[Nat.pow_succ,Nat.mul_comm]
       have hw2':IntKind.i64.wrap ((x:Int)*2)=((2*x:Nat):Int):=by rw[show (x:Int)*2=((2*x:Nat):Int) by omega];exact iw_ _ (by omega)
       have hw3':IntKind.i64.wrap (((2*x:Nat):Int)+1)=((2*x+1:Nat):Int):=by rw[← Int.natCast_succ];exact iw_ _ (by omega)
       have htw:IntKind.i64.wrap ((t:Int)+1)=((t+1:Nat):Int):=by rw[← Int.natCast_succ];exact iw_ _ (by omega)
       have e1:F j*2^(t+1)=2*(F j*2^t):=by rw[hps];exact Nat.mul_left_comm ..
       have hXb:=HX.out.2
       cases hbv:bl.getD (j+t) false with
       | true =>
        have HX2:Hid (2*x+1<2^(t+1)∧F (j+(t+1))=F j*2^(t+1)+(2*x+1)):=by
         refine⟨by omega,?_⟩
         rw[hbv] at hnx
         rw[← Nat.add_assoc,hnx,hXb,e1]
         show _+1=_
         omega
        have hx2:2*x+1<268435456:=by have:=HX2.out.1;omega
        rw[hbv] at cb
        clear hnx hbv HX e1 hXb hxt hpt hps
        go_wp2_with fail
        refine⟨⟨t+1,2*x+1,by omega,by go_num,by go_num,hx2,HX2,HB⟩,by simp[intOf];omega⟩
       | false =>
        have HX2:Hid (2*x<2^(t+1)∧F (j+(t+1))=F j*2^(t+1)+2*x):=by
         refine⟨by omega,?_⟩
         rw[hbv] at hnx
         rw[← Nat.add_assoc,hnx,hXb,e1]
         show _+0=_
         omega
        have hx2:2*x<268435456:=by have:=HX2.out.1;omega
        rw[hbv] at cb
        clear hnx hbv HX e1 hXb hxt hpt hps hw3'
        go_wp2_with fail
        refine⟨⟨t+1,2*x,by omega,by go_num,by go_num,hx2,HX2,HB⟩,by simp[intOf];omega⟩
      ·obtain rfl:t=g:=by omega
       have hlt2':¬ (t:Int)<t:=by omega
       have hFj:=HF.out.sm j hj
       have hF10:F j<2^K10:=Nat.lt_of_lt_of_le hFj (Nat.pow_le_pow_right (by decide) (by rw[k10];omega))
       obtain⟨G,hG⟩:∃ G,2^t=G:=⟨_,rfl⟩
       have hGb:G≤268435456:=by rw[← hG];exact Nat.le_trans (Nat.pow_le_pow_right (by decide) hg28) (by decide)
       have hGi:(2:Int)^t=(G:Nat):=by rw[← hG,Int.natCast_pow];rfl
       have hsh:IntKind.i64.wrap (G:Int)=(G:Nat):=iw_ _ (by omega)
       have hM:=fun W hW=>Hmul.out (F j) t W hF10 hg28 hW
       have hA:=fun W hW=>Hadd.out (F j) x t W hF10 hg28 HX.out.1 hW
       have hXe:=HX.out.2
       rw[hG] at hM hA hXe
       have BW2:=hd_ (HI.out.bel.trans (HB.out.mono HI.out.bel.size))
       have HM:=hd_ hM
       have HA:=hd_ hA
       have HXe:=hd_ hXe
       have hof1:=hd_ (fun W hW=>Hof.out G W (by omega) hW)
       have hof2:=hd_ (fun W hW=>Hof.out x W (by omega) hW)
       clear hFj hF10 hG hM hA hXe HX
       go_wp2_with fail
       refine cm_ (hof1.out _ BW2.out) ?_
       rintro e w4 ⟨rfl,hb⟩
       have B4:=hd_ (BW2.out.trans (hb.mono BW2.out.size))
       have C4:=hd_ (HB.out.trans (hb.mono HB.out.size))
       clear hb
       go_wp2_with fail
       refine cm_ (HM.out _ B4.out) ?_
       rintro e w5 ⟨rfl,hb⟩
       have B5:=hd_ (B4.out.trans (hb.mono B4.out.size))
       have C5:=hd_ (C4.out.trans (hb.mono C4.out.size))
       clear hb B4 C4
       go_wp2_with fail
       refine cm_ (hof2.out _ B5.out) ?_
       rintro e w6 ⟨rfl,hb⟩
       have B6:=hd_ (B5.out.trans (hb.mono B5.out.size))
       have C6:=hd_ (C5.out.trans (hb.mono C5.out.size))
       clear hb B5 C5
       go_wp2_with fail
       refine cm_ (HA.out _ B6.out) ?_
       rintro e w7 ⟨rfl,hb⟩
       have B7:=hd_ (B6.out.trans (hb.mono B6.out.size))
       have C7:=hd_ (C6.out.trans (hb.mono C6.out.size))
       clear hb B6 C6 hof1 hof2 HM HA HB BW2 Hcell
       have HR7:=hd_ (rd_from (d:=c) (HI.out.rd.below C7.out nr_) t (by rw[bools_length,List.length_drop,HF.out.len];have:=HI.out.cap;omega))
       have Hcp:=hd_ HI.out.cap
       rw[← HXe.out]
       clear HI HXe
       go_wp2_with fail
       refine⟨⟨j+t,_,c-t,Hjg.out,rfl,by rw[show n-(j+t)=m-t by omega],⟨?_,by have:=Hcp.out;omega,B7.out⟩⟩,by show m-t<m;omega⟩
       have:=HR7.out
       unfold bools at this
       rw[← List.map_drop,List.drop_drop] at this
       exact this
    ·obtain rfl:j=n:=by omega
     obtain rfl:m=0:=by omega
     go_wp2_with fail
     go_ret
     exact⟨by rw[HFn.out];rfl,HI.out.bel⟩
 ·have h2b:((p:Int)==2)=false:=by rw[beq_eq_false_iff_ne];omega
  have h2n:((p:Int) != 2)=true:=by rw[bne_iff_ne];omega
  have Hdg':=hd_ (Hdg.out h2)
  have Hok':=hd_ (fun P h=>Hok.out P h2 h)
  have Hlg':=hd_ (fun P s h=>Hlg.out P s h2 h)
  have Hodd:=hd_ (fun (P:Nat) (s:Nat×Nat×Nat) (h1:64≤P) (h:digs p P n=some s)=>digF_odd Hp1.out Hp2.out h1 h)
  clear Hdg Hok Hlg Hlg2
  have hwn:IntKind.i64.wrap ((n:Int)+64)=((n+64:Nat):Int):=by rw[show (n:Int)+64=((n+64:Nat):Int) by omega];exact iw_ _ (by omega)
  go_wp2_with fail
  go_loopw [7,8] (fun l q wr=>∃ P:Nat,n+64≤P∧P≤1200∧l = .slice none 0 0∧q = .int .i64 P∧Hid (Below w.heap.size w wr)) (fun _ q _=>1300-(intOf q).toNat)
  case atStart=>exact⟨n+64,Nat.le_refl _,by omega,rfl,rfl,B2⟩
  case round =>
   obtain⟨P,hP1,hP2,rfl,rfl,B3⟩:=hrel
   clear B2
   go_wp2_with fail
   refine cm_ (Hdg'.out P _ hP1 (by omega)) ?_
   rintro e w4 ⟨hb,hm⟩
   have B4:=hd_ (B3.out.trans (hb.mono B3.out.size))
   have hPw:IntKind.i64.wrap ((P:Int)+64)=((P+64:Nat):Int):=by rw[show (P:Int)+64=((P+64:Nat):Int) by omega];exact iw_ _ (by omega)
   cases hd:digs p P n with
   | none =>
    rw[hd] at hm
    obtain rfl:=hm
    have hP3:P<1120:=Nat.lt_of_not_le fun h=>Hok'.out P h hd
    clear hb hd
    go_wp2_with fail
    refine⟨⟨P+64,by omega,by omega,rfl,by go_num,B4⟩,by simp[intOf];omega⟩
   | some s =>
    rw[hd] at hm
    obtain⟨a0,c0,rfl,ho⟩:=hm
    obtain⟨F,hF,hFk,hFn⟩:=Hodd.out P s (by omega) hd
    have HR':=hd_ (own_rd_b ho)
    have Hcap0:Hid (n≤c0):=by
     have:OwnBo w4 wr.heap.size a0 c0 (bitsE p P n):=ho
     show n≤c0
     rcases this.2 with⟨h1,h0⟩|⟨g,cap,cur,h1,_,_,h2,_⟩
     ·simp only[Value.slice.injEq] at h1;rw[bitsE_length] at h0;omega
     ·simp only[Value.slice.injEq] at h1;rw[bitsE_length] at h2;omega
    have HFn:Hid (F n=v):=by show _=_;rw[hFn];exact Hlg'.out P s (by omega) hd
    have HF:=hd_ hF
    have HFk:Hid (F 0=k):=by show _=_;rw[hFk,Hk.out]
    clear hF hFn hFk hb hd ho Hdg' Hok' Hlg' Hodd B3
    generalize bitsE p P n=bl at *
    have HR:Hid (LoI w w4 n bl 0 a0 c0):=⟨by rw[List.drop_zero];exact HR'.out,by have:=Hcap0.out;omega,B4.out⟩
    clear HR' Hcap0 B4
    go_wp2_with fail
    go_loopw [6,7] (fun s l wr=>∃ (j:Nat) (a:Option Addr) (c:Nat),j≤n∧s = .string (dec (F j))∧l = .slice a (n-j) c∧Hid (LoI w wr n bl j a c)) (fun _ l _=>match l with | .slice _ m _=>m | _=>0)
    case atStart=>exact⟨0,_,_,Nat.zero_le _,by rw[HFk.out],by rw[Nat.sub_zero],HR⟩
    case round =>
     clear HR
     obtain⟨j,a,c,hj,rfl,rfl,HI⟩:=hrel
     obtain⟨m,hm⟩:∃ m,n-j=m:=⟨_,rfl⟩
     have hmb:m≤1000:=by omega
     rw[hm]
     by_cases hlt:0<m
     ·have hlt':(0:Int)<m:=by omega
      obtain⟨g,hg⟩:∃ g,min m 28=g:=⟨_,rfl⟩
      have hg28:g≤28:=by omega
      have hgm:g≤m:=by omega
      have hg0:0<g:=by omega
      have hmin:min (m:Int) 28=(g:Nat):=by omega
      have hcap:g≤c:=by have:=HI.out.cap;omega
      have Hjg:=hd_ (show j+g≤n by omega)
      obtain⟨b,off,rfl,hb1,hcell⟩:=HI.out.rd.open (by rw[bools_length,List.length_drop,HF.out.len];omega)
      have Hcell:Hid (∀ t,t<g→wr.cell? ⟨b,off+t,none⟩=some (.bool (bl.getD (j+t) false))):=fun t ht=>by
       refine hcell t _ ?_
       rw[bools_get _ _ (by rw[List.length_drop,HF.out.len];omega)]
       rw[List.getD_eq_getElem?_getD,List.getD_eq_getElem?_getD,List.getElem?_drop]
      clear hcell
      obtain⟨wo,hwo⟩:∃ wo:World,wo=wr:=⟨_,rfl⟩
      subst hwo
      go_wp2_with fail
      go_loopw [11,49] (fun ad i wr=>∃ t x:Nat,t≤g∧i = .int .i64 t∧ad = .int .i64 x∧x<268435456∧Hid (x<2^t∧F (j+t)=F j*2^t+x)∧Hid (Below wo.heap.size wo wr)) (fun _ i _=>g-(intOf i).toNat)
      case atStart=>exact⟨0,0,Nat.zero_le _,rfl,rfl,by decide,⟨by decide,by simp⟩,Below.refl _ _⟩
      case round =>
       obtain⟨t,x,ht,rfl,rfl,hx,HX,HB⟩:=hrel
       by_cases hlt2:t<g
       ·have hlt2':(t:Int)<g:=by omega
        have cb:=Hcell.out t hlt2
        rw[← HB.out.cell (p:=⟨b,off+t,none⟩) hb1] at cb
        have hnx:=HF.out.nxt (j+t) (by have:=Hjg.out;omega)
        have hxt:=HX.out.1
        have hpt:2^(t+1)≤268435456:=Nat.le_trans (Nat.pow_le_pow_right (by decide) (show t+1≤28 by omega)) (by decide)
        have hps:2^(t+1)=2*2^t:=by rw[Nat.pow_succ,Nat.mul_comm]
        have hw2':IntKind.i64.wrap ((x:Int)*2)=((2*x:Nat):Int):=by rw[show (x:Int)*2=((2*x:Nat):Int) by omega];exact iw_ _ (by omega)
        have hw3':IntKind.i64.wrap (((2*x:Nat):Int)+1)=((2*x+1:Nat):Int):=by rw[← Int.natCast_succ];exact iw_ _ (by omega)
        have htw:IntKind.i64.wrap ((t:Int)+1)=((t+1:Nat):Int):=by rw[← Int.natCast_succ];exact iw_ _ (by omega)
        have e1:F j*2^(t+1)=2*(F j*2^t):=by rw[hps];exact Nat.mul_left_comm ..
        have hXb:=HX.out.2
        cases hbv:bl.getD (j+t) false with
        | true =>
         have HX2:Hid (2*x+1<2^(t+1)∧F (j+(t+1))=F j*2^(t+1)+(2*x+1)):=by
          refine⟨by omega,?_⟩
          rw[hbv] at hnx
          rw[← Nat.add_assoc,hnx,hXb,e1]
          show _+1=_
          omega
         have hx2:2*x+1<268435456:=by have:=HX2.out.1;omega
         rw[hbv] at cb
         clear hnx hbv HX e1 hXb hxt hpt hps
         go_wp2_with fail
         refine⟨⟨t+1,2*x+1,by omega,by go_num,by go_num,hx2,HX2,HB⟩,by simp[intOf];omega⟩
        | false =>
         have HX2:Hid (2*x<2^(t+1)∧F (j+(t+1))=F j*2^(t+1)+2*x):=by
          refine⟨by omega,?_⟩
          rw[hbv] at hnx
          rw[← Nat.add_assoc,hnx,hXb,e1]
          show _+0=_
          omega
         have hx2:2*x<268435456:=by have:=HX2.out.1;omega
         rw[hbv] at cb
         clear hnx hbv HX e1 hXb hxt hpt hps hw3'
         go_wp2_with fail
         refine⟨⟨t+1,2*x,by omega,by go_num,by go_num,hx2,HX2,HB⟩,by simp[intOf];omega⟩
       ·obtain rfl:t=g:=by omega
        have hlt2':¬ (t:Int)<t:=by omega
        have hFj:=HF.out.sm j hj
        have hF10:F j<2^K10:=Nat.lt_of_lt_of_le hFj (Nat.pow_le_pow_right (by decide) (by rw[k10];omega))
        obtain⟨G,hG⟩:∃ G,2^t=G:=⟨_,rfl⟩
        have hGb:G≤268435456:=by rw[← hG];exact Nat.le_trans (Nat.pow_le_pow_right (by decide) hg28) (by decide)
        have hGi:(2:Int)^t=(G:Nat):=by rw[← hG,Int.natCast_pow];rfl
        have hsh:IntKind.i64.wrap (G:Int)=(G:Nat):=iw_ _ (by omega)
        have hM:=fun W hW=>Hmul.out (F j) t W hF10 hg28 hW
        have hA:=fun W hW=>Hadd.out (F j) x t W hF10 hg28 HX.out.1 hW
        have hXe:=HX.out.2
        rw[hG] at hM hA hXe
        have BW2:=hd_ (HI.out.bel.trans (HB.out.mono HI.out.bel.size))
        have HM:=hd_ hM
        have HA:=hd_ hA
        have HXe:=hd_ hXe
        have hof1:=hd_ (fun W hW=>Hof.out G W (by omega) hW)
        have hof2:=hd_ (fun W hW=>Hof.out x W (by omega) hW)
        clear hFj hF10 hG hM hA hXe HX
        go_wp2_with fail
        refine cm_ (hof1.out _ BW2.out) ?_
        rintro e w4 ⟨rfl,hb⟩
        have B4:=hd_ (BW2.out.trans (hb.mono BW2.out.size))
        have C4:=hd_ (HB.out.trans (hb.mono HB.out.size))
        clear hb
        go_wp2_with fail
        refine cm_ (HM.out _ B4.out) ?_
        rintro e w5 ⟨rfl,hb⟩
        have B5:=hd_ (B4.out.trans (hb.mono B4.out.size))
        have C5:=hd_ (C4.out.trans (hb.mono C4.out.size))
        clear hb B4 C4
        go_wp2_with fail
        refine cm_ (hof2.out _ B5.out) ?_
        rintro e w6 ⟨rfl,hb⟩
        have B6:=hd_ (B5.out.trans (hb.mono B5.out.size))
        have C6:=hd_ (C5.out.trans (hb.mono C5.out.size))
        clear hb B5 C5
        go_wp2_with fail
        refine cm_ (HA.out _ B6.out) ?_
        rintro e w7 ⟨rfl,hb⟩
        have B7:=hd_ (B6.out.trans (hb.mono B6.out.size))
        have C7:=hd_ (C6.out.trans (hb.mono C6.out.size))
        clear hb B6 C6 hof1 hof2 HM HA HB BW2 Hcell
        have HR7:=hd_ (rd_from (d:=c) (HI.out.rd.below C7.out nr_) t (by rw[bools_length,List.length_drop,HF.out.len];have:=HI.out.cap;omega))
        have Hcp:=hd_ HI.out.cap
        rw[← HXe.out]
        clear HI HXe
        go_wp2_with fail
        refine⟨⟨j+t,_,c-t,Hjg.out,rfl,by rw[show n-(j+t)=m-t by omega],⟨?_,by have:=Hcp.out;omega,B7.out⟩⟩,by show m-t<m;omega⟩
        have:=HR7.out
        unfold bools at this
        rw[← List.map_drop,List.drop_drop] at this
        exact this
     ·obtain rfl:j=n:=by omega
      obtain rfl:m=0:=by omega
      go_wp2_with fail
      go_ret
      exact⟨by rw[HFn.out];rfl,HI.out.bel⟩
end Go.Proofs.YtnjedhgcfeoemaaGreatDoor

namespace Go.Proofs.YtnjedhgcfeoemaaGreatDoor.LN
def sg (x:Rat):Int:=if 1<x then 1 else if x<1 then -1 else 0
theorem sg_one:sg 1=0:=by decide
theorem sg_pos{x:Rat}:sg x=1↔1<x:=by
 unfold sg
 by_cases h:1<x
 ·simp[h]
 ·rw[if_neg h];split<;>simp[h]
theorem sg_low{x:Rat}:sg x = -1↔x<1:=by
 unfold sg
 by_cases h:1<x
 ·rw[if_pos h]
  constructor
  ·intro h2;cases h2
  ·intro h2;exact absurd h2 (by grind)
 ·rw[if_neg h];split<;>simp_all
theorem sg_ge{x:Rat}:0≤sg x↔1≤x:=by
 constructor
 ·intro h
  refine Rat.not_lt.1 fun h2=>?_
  rw[sg_low.2 h2] at h;omega
 ·intro h
  unfold sg
  split
  ·decide
  ·split
   ·rename_i h2;exact absurd h (Rat.not_le.2 h2)
   ·decide
theorem sg_le{x:Rat}:sg x≤0↔x≤1:=by
 constructor
 ·intro h
  refine Rat.not_lt.1 fun h2=>?_
  rw[sg_pos.2 h2] at h;omega
 ·intro h
  unfold sg
  split
  ·rename_i h2;exact absurd h (Rat.not_le.2 h2)
  ·split<;>decide
theorem sg_zero{x:Rat}:sg x=0↔x=1:=by
 constructor
 ·intro h
  exact Rat.le_antisymm (sg_le.1 (by omega)) (sg_ge.1 (by omega))
 ·rintro rfl;exact sg_one
theorem sg_cases(x:Rat):sg x=1∨sg x=0∨sg x = -1:=by
 unfold sg
 split
 ·exact .inl rfl
 ·split
  ·exact .inr (.inr rfl)
  ·exact .inr (.inl rfl)
theorem one_le_mul{x y:Rat}(hx:1≤x)(hy:1≤y):1≤x*y:=by
 have h:=Rat.mul_le_mul_of_nonneg_left hy (show 0≤x by grind)
 rw[Rat.mul_one] at h
 exact Rat.le_trans hx h
theorem one_lt_mul{x y:Rat}(hx:1<x)(hy:1≤y):1<x*y:=by
 have h:=Rat.mul_le_mul_of_nonneg_left hy (show 0≤x by grind)
 rw[Rat.mul_one] at h
 grind
theorem mul_le_one{x y:Rat}(h0:0<x)(hx:x≤1)(hy:y≤1):x*y≤1:=by
 have h:=Rat.mul_le_mul_of_nonneg_left hy (show 0≤x by grind)
 rw[Rat.mul_one] at h
 grind
theorem mul_lt_one{x y:Rat}(h0:0<x)(hx:x<1)(hy:y≤1):x*y<1:=by
 have h:=Rat.mul_le_mul_of_nonneg_left hy (show 0≤x by grind)
 rw[Rat.mul_one] at h
 grind
theorem pow_one_le{x:Rat}(hx:1≤x):∀ m:Nat,1≤x^m
 | 0=>by rw[Rat.pow_zero];exact Rat.le_refl
 | m+1=>by rw[Rat.pow_succ];exact one_le_mul (pow_one_le hx m) hx
theorem pow_one_lt{x:Rat}(hx:1<x)(m:Nat)(hm:0<m):1<x^m:=by
 obtain⟨k,rfl⟩:=Nat.exists_eq_succ_of_ne_zero (by omega:m≠0)
 rw[Rat.pow_succ,Rat.mul_comm]
 exact one_lt_mul hx (pow_one_le (by grind) k)
theorem pow_le_one{x:Rat}(h0:0<x)(hx:x≤1):∀ m:Nat,x^m≤1
 | 0=>by rw[Rat.pow_zero];exact Rat.le_refl
 | m+1=>by rw[Rat.pow_succ];exact mul_le_one (Rat.pow_pos h0) (pow_le_one h0 hx m) hx
theorem pow_lt_one{x:Rat}(h0:0<x)(hx:x<1)(m:Nat)(hm:0<m):x^m<1:=by
 obtain⟨k,rfl⟩:=Nat.exists_eq_succ_of_ne_zero (by omega:m≠0)
 rw[Rat.pow_succ,Rat.mul_comm]
 exact mul_lt_one h0 hx (pow_le_one h0 (by grind) k)
theorem sg_pow{x:Rat}(h0:0<x){m:Nat}(hm:0<m):sg (x^m)=sg x:=by
 rcases sg_cases x with h|h|h
 ·rw[h];exact sg_pos.2 (pow_one_lt (sg_pos.1 h) m hm)
 ·rw[h]
  rw[sg_zero.1 h]
  have:(1:Rat)^m=1:=by
   clear hm
   induction m with
   | zero=>rfl
   | succ m ih=>rw[Rat.pow_succ,ih,Rat.mul_one]
  rw[this];exact sg_one
 ·rw[h];exact sg_low.2 (pow_lt_one h0 (sg_low.1 h) m hm)
theorem sg_inv{x:Rat}(h0:0<x):sg x⁻¹ = - sg x:=by
 have h1:=Rat.inv_pos.2 h0
 have e:=Rat.mul_inv_cancel x (by grind)
 rcases sg_cases x with h|h|h
 ·rw[h]
  have hx:=sg_pos.1 h
  refine sg_low.2 (Rat.not_le.1 fun h2=>?_)
  have:=one_lt_mul hx h2
  rw[e] at this
  exact Rat.lt_irrefl this
 ·rw[h,sg_zero.1 h,Rat.inv_eq_of_mul_eq_one (Rat.mul_one 1),sg_one];rfl
 ·rw[h]
  have hx:=sg_low.1 h
  refine sg_pos.2 (Rat.not_le.1 fun h2=>?_)
  have:=mul_lt_one h0 hx h2
  rw[e] at this
  exact Rat.lt_irrefl this
theorem sg_mul_ge{x y:Rat}(hx:0≤sg x)(hy:0≤sg y):0≤sg (x*y):=sg_ge.2 (one_le_mul (sg_ge.1 hx) (sg_ge.1 hy))
theorem sg_mul_le{x y:Rat}(h0:0<x)(hx:sg x≤0)(hy:sg y≤0):sg (x*y)≤0:=sg_le.2 (mul_le_one h0 (sg_le.1 hx) (sg_le.1 hy))
def vp:List Int→List Int→Rat
 | p::ps,k::ks=>(p:Rat)^k*vp ps ks
 | _,_=>1
theorem vp_pos:∀ (ps ks:List Int),(∀ p∈ps,0<p)→0<vp ps ks
 | [],_,_=>by simp only[vp];decide
 | _::_,[],_=>by simp only[vp];decide
 | p::ps,k::ks,h=>by
  simp only[vp]
  exact Rat.mul_pos (Rat.zpow_pos (by have:=h p List.mem_cons_self;exact Rat.intCast_pos.2 this)) (vp_pos ps ks fun q hq=>h q (List.mem_cons_of_mem _ hq))
theorem vp_add:∀ (ps ks ms:List Int),(∀ p∈ps,0<p)→ks.length=ms.length→vp ps (List.zipWith (· + ·) ks ms)=vp ps ks*vp ps ms
 | [],_,_,_,_=>by simp only[vp];rw[Rat.mul_one]
 | _::_,[],[],_,_=>by simp[vp]
 | p::ps,k::ks,m::ms,h,hl=>by
  have ih:=vp_add ps ks ms (fun q hq=>h q (List.mem_cons_of_mem _ hq)) (by simpa using hl)
  have hp:=h p List.mem_cons_self
  have hp0:(p:Rat)≠0:=by have:=Rat.intCast_pos.2 hp;grind
  simp only[List.zipWith_cons_cons,vp]
  rw[ih,Rat.zpow_add hp0]
  grind
theorem vp_zero:∀ (ps ks:List Int),(∀ k∈ks,k=0)→vp ps ks=1
 | [],_,_=>rfl
 | _::_,[],_=>rfl
 | p::ps,k::ks,h=>by
  simp only[vp]
  rw[h k List.mem_cons_self,vp_zero ps ks fun x hx=>h x (List.mem_cons_of_mem _ hx),Rat.zpow_zero,Rat.mul_one]
theorem vp_neg(ps ks:List Int)(h:∀ p∈ps,0<p):vp ps (ks.map fun k => -k)=(vp ps ks)⁻¹:=by
 have e:=vp_add ps ks (ks.map fun k => -k) h (by simp)
 have z:vp ps (List.zipWith (· + ·) ks (ks.map fun k => -k))=1:=by
  refine vp_zero _ _ fun k hk=>?_
  rw[List.zipWith_map_right] at hk
  rw[List.mem_iff_getElem] at hk
  obtain⟨i,hi,rfl⟩:=hk
  simp
  omega
 rw[z] at e
 exact(Rat.inv_eq_of_mul_eq_one e.symm).symm
theorem vp_nsmul(ps ks:List Int)(h:∀ p∈ps,0<p):∀ m:Nat,vp ps (ks.map fun k=>(m:Int)*k)=vp ps ks^m
 | 0=>by
  rw[Rat.pow_zero]
  refine vp_zero _ _ fun k hk=>?_
  obtain⟨x,_,rfl⟩:=List.mem_map.1 hk
  simp
 | m+1=>by
  have ih:=vp_nsmul ps ks h m
  have e:=vp_add ps (ks.map fun k=>(m:Int)*k) ks h (by simp)
  rw[Rat.pow_succ,← ih,← e]
  congr 1
  rw[List.zipWith_map_left]
  refine List.ext_getElem (by simp) fun i h1 h2=>?_
  simp
  rw[Int.add_mul,Int.one_mul]
def vt:List (Int×Int)→Rat
 | []=>1
 | x::l=>(x.1:Rat)^x.2*vt l
theorem natCast_pow(a n:Nat):((a^n:Nat):Rat)=(a:Rat)^n:=by
 induction n with
 | zero=>rw[Nat.pow_zero,Rat.pow_zero];rfl
 | succ n ih=>rw[Nat.pow_succ,Rat.pow_succ,Rat.natCast_mul,ih]
theorem vt_up:∀ l:List (Int×Int),(∀ x∈l,0<x.1)→((upT l:Nat):Rat)=vt l*((upT (negT l):Nat):Rat)
 | [],_=>by simp[upT,negT,vt]
 | x::l,h=>by
  have ih:=vt_up l fun y hy=>h y (List.mem_cons_of_mem _ hy)
  have hx:=h x List.mem_cons_self
  have e:negT (x::l)=(x.1,-x.2)::negT l:=rfl
  rw[e]
  simp only[upT,vt]
  rw[Rat.natCast_mul,Rat.natCast_mul,ih,natCast_pow,natCast_pow]
  have hp:((x.1.toNat:Nat):Rat)=(x.1:Rat):=by
   rw[← Rat.intCast_natCast,Int.toNat_of_nonneg (by omega)]
  rw[hp]
  have hp0:(x.1:Rat)≠0:=by have:=Rat.intCast_pos.2 hx;grind
  have key:(x.1:Rat)^x.2.toNat=(x.1:Rat)^x.2*(x.1:Rat)^(-x.2).toNat:=by
   rw[← Rat.zpow_natCast,← Rat.zpow_natCast,← Rat.zpow_add hp0]
   congr 1
   omega
  rw[key]
  grind
theorem up_pos':∀ l:List (Int×Int),(∀ x∈l,0<x.1)→0<upT l
 | [],_=>by simp[upT]
 | x::l,h=>by
  have hx:=h x List.mem_cons_self
  exact Nat.mul_pos (Nat.pow_pos (by omega)) (up_pos' l fun y hy=>h y (List.mem_cons_of_mem _ hy))
theorem signT_sg(l:List (Int×Int))(h:∀ x∈l,0<x.1):signT l=sg (vt l):=by
 have e:=vt_up l h
 have hd:(0:Rat)<((upT (negT l):Nat):Rat):=by
  have:=up_pos' (negT l) (by
   intro x hx
   obtain⟨y,hy,rfl⟩:=List.mem_map.1 hx
   exact h y hy)
  exact Rat.natCast_pos.2 this
 have c1:upT (negT l)<upT l↔1<vt l:=by
  rw[← Rat.natCast_lt_natCast,e]
  constructor
  ·intro h1
   refine Rat.lt_of_mul_lt_mul_right (c:=((upT (negT l):Nat):Rat)) ?_ (Rat.le_of_lt hd)
   rw[Rat.one_mul];exact h1
  ·intro h1
   have:=Rat.mul_lt_mul_of_pos_right h1 hd
   rw[Rat.one_mul] at this
   exact this
 have c2:upT l<upT (negT l)↔vt l<1:=by
  rw[← Rat.natCast_lt_natCast,e]
  constructor
  ·intro h1
   refine Rat.lt_of_mul_lt_mul_right (c:=((upT (negT l):Nat):Rat)) ?_ (Rat.le_of_lt hd)
   rw[Rat.one_mul];exact h1
  ·intro h1
   have:=Rat.mul_lt_mul_of_pos_right h1 hd
   rw[Rat.one_mul] at this
   exact this
 unfold signT sg
 simp only[c1,c2]
theorem mkRat_den'(n:Int)(d:Nat)(h:d≠0):(mkRat n d).den=d/Nat.gcd n.natAbs d:=by
 rw[← Rat.normalize_eq_mkRat h,Rat.den_normalize]
theorem num_pos'{q:Rat}:0<q.num↔0<q:=by
 have h1:=@Rat.num_nonneg q
 have h2:=@Rat.num_eq_zero q
 constructor
 ·intro h
  have:=h1.1 (by omega)
  have h3:q≠0:=fun e=>by have:=h2.2 e;omega
  grind
 ·intro h
  have:=h1.2 (by grind)
  have h3:q.num≠0:=fun e=>by have:=h2.1 e;grind
  omega
theorem num_neg'{q:Rat}:q.num<0↔q<0:=by
 have h1:=@num_pos' (-q)
 rw[Rat.neg_num] at h1
 constructor
 ·intro h
  have:=h1.1 (by omega)
  grind
 ·intro h
  have:=h1.2 (by grind)
  omega
theorem rat_tri(q:Rat):q<0∨q=0∨0<q:=by grind
theorem mul_den'(q:Rat):q*(q.den:Rat)=(q.num:Rat):=by
 have h:mkRat q.num q.den=(q.num:Rat)/((q.den:Nat):Rat):=Rat.mkRat_eq_div _ _
 rw[Rat.mkRat_self] at h
 have h2:((q.den:Nat):Rat)≠0:=by have:=Rat.natCast_pos.2 q.den_pos;grind
 have h3:=Rat.div_mul_cancel (a:=(q.num:Rat)) h2
 rw[← h] at h3
 exact h3
def ex (D:Nat) (q:Rat):Int:=q.num*((D/q.den:Nat):Int)
theorem ex_eq{D:Nat}{q:Rat}(h:q.den ∣ D):(ex D q:Rat)=q*(D:Rat):=by
 obtain⟨m,rfl⟩:=h
 unfold ex
 rw[Nat.mul_div_cancel_left _ q.den_pos,Rat.intCast_mul,Rat.intCast_natCast,Rat.natCast_mul]
 have h1:=mul_den' q
 grind
theorem ex_add{D:Nat}{a b:Rat}(ha:a.den ∣ D)(hb:b.den ∣ D)(hc:(a+b).den ∣ D):ex D (a+b)=ex D a+ex D b:=by
 rw[← Rat.intCast_inj,Rat.intCast_add,ex_eq ha,ex_eq hb,ex_eq hc]
 grind
theorem ex_neg{D:Nat}{a:Rat}:ex D (-a) = - ex D a:=by
 unfold ex
 rw[Rat.neg_num,Rat.neg_den]
 grind
theorem ex_mul{D m:Nat}{a:Rat}(ha:a.den ∣ D):ex (m*D) a=(m:Int)*ex D a:=by
 have:a.den ∣ m*D:=Nat.dvd_trans ha (Nat.dvd_mul_left ..)
 rw[← Rat.intCast_inj,Rat.intCast_mul,ex_eq ha,ex_eq this,Rat.natCast_mul,Rat.intCast_natCast]
 grind
theorem ex_zero{D:Nat}(a:Rat)(h:a.num=0):ex D a=0:=by unfold ex;rw[h];simp
theorem vt_tlist(D:Nat):∀ (ps:List Int) (l:List Rat),vt (tlist D ps l)=vp ps (l.map (ex D))
 | [],_=>rfl
 | _::_,[]=>rfl
 | p::ps,q::l=>by
  have ih:=vt_tlist D ps l
  unfold tlist at ih ⊢
  rw[List.zip_cons_cons,List.filterMap_cons]
  by_cases h:q.num=0
  ·simp only[h,if_true,List.map_cons,vp]
   rw[ih,ex_zero q h,Rat.zpow_zero,Rat.one_mul]
  ·simp only[h,if_false,List.map_cons,vp,vt]
   rw[ih];rfl
theorem tden_go(l:List Rat):∀ d:Nat,d ∣ l.foldl (fun d q=>Nat.lcm d q.den) d∧∀ q∈l,q.den ∣ l.foldl (fun d q=>Nat.lcm d q.den) d:=by
 induction l with
 | nil=>intro d;exact⟨Nat.dvd_refl _,by simp⟩
 | cons a l ih =>
  intro d
  obtain⟨h1,h2⟩:=ih (Nat.lcm d a.den)
  refine⟨Nat.dvd_trans (Nat.dvd_lcm_left ..) h1,fun q hq=>?_⟩
  rcases List.mem_cons.1 hq with rfl|hq
  ·exact Nat.dvd_trans (Nat.dvd_lcm_right ..) h1
  ·exact h2 q hq
theorem tden_dvd{l:List Rat}{q:Rat}(h:q∈l):q.den ∣ tden l:=(tden_go l 1).2 q h
theorem tden_least(l:List Rat):∀ (D d:Nat),d ∣ D→(∀ q∈l,q.den ∣ D)→l.foldl (fun d q=>Nat.lcm d q.den) d ∣ D:=by
 induction l with
 | nil=>intro D d h _;exact h
 | cons a l ih =>
  intro D d h h2
  exact ih D _ (Nat.lcm_dvd h (h2 a List.mem_cons_self)) fun q hq=>h2 q (List.mem_cons_of_mem _ hq)
theorem tden_min{l:List Rat}{D:Nat}(h:∀ q∈l,q.den ∣ D):tden l ∣ D:=tden_least l D 1 (Nat.one_dvd _) h
theorem tden_pos'(l:List Rat):0<tden l:=by
 have:∀ (l:List Rat) (d:Nat),0<d→0<l.foldl (fun d q=>Nat.lcm d q.den) d:=by
  intro l
  induction l with
  | nil=>intro d h;exact h
  | cons a l ih=>intro d h;exact ih _ (Nat.lcm_pos h a.den_pos)
 exact this l 1 Nat.one_pos
def sz (ps:List Int) (l:List Rat):Int:=signT (tlist (tden l) ps l)
theorem tlist_pos{D:Nat}{ps:List Int}{l:List Rat}(hp:∀ p∈ps,0<p):∀ x∈tlist D ps l,0<x.1:=by
 intro x hx
 unfold tlist at hx
 obtain⟨y,hy,he⟩:=List.mem_filterMap.1 hx
 have h1:=(List.of_mem_zip hy).1
 split at he
 ·cases he
 ·cases he;exact hp _ h1
theorem sz_eq{ps:List Int}{l:List Rat}{D:Nat}(hp:∀ p∈ps,0<p)(hD:0<D)(h:∀ q∈l,q.den ∣ D):sz ps l=sg (vp ps (l.map (ex D))):=by
 unfold sz
 rw[signT_sg _ (tlist_pos hp),vt_tlist]
 obtain⟨m,rfl⟩:=tden_min h
 have hm:0<m:=Nat.pos_of_mul_pos_left hD
 have e:l.map (ex (tden l*m))=(l.map (ex (tden l))).map fun k=>(m:Int)*k:=by
  rw[List.map_map]
  refine List.map_congr_left fun q hq=>?_
  rw[Nat.mul_comm,ex_mul (tden_dvd hq)];rfl
 rw[e,vp_nsmul _ _ hp,sg_pow (vp_pos _ _ hp) hm]
theorem sz_neg{ps:List Int}{l:List Rat}(hp:∀ p∈ps,0<p):sz ps (l.map fun q => -q) = - sz ps l:=by
 have h1:∀ q∈l.map (fun q:Rat => -q),q.den ∣ tden l:=by
  intro q hq
  obtain⟨x,hx,rfl⟩:=List.mem_map.1 hq
  rw[Rat.neg_den];exact tden_dvd hx
 rw[sz_eq hp (tden_pos' l) h1,sz_eq hp (tden_pos' l) fun q hq=>tden_dvd hq,← sg_inv (vp_pos _ _ hp),← vp_neg _ _ hp]
 congr 2
 rw[List.map_map,List.map_map]
 exact List.map_congr_left fun q _=>ex_neg
theorem sz_sum{ps:List Int}{a b c:List Rat}(hp:∀ p∈ps,0<p)(hab:a.length=b.length)(hc:c=List.zipWith (· + ·) a b):
  ∃ x y:Rat,0<x∧0<y∧sz ps a=sg x∧sz ps b=sg y∧sz ps c=sg (x*y):=by
 obtain⟨D,hD⟩:∃ D,D=tden a*tden b*tden c:=⟨_,rfl⟩
 have ha:∀ q∈a,q.den ∣ D:=fun q hq=>Nat.dvd_trans (tden_dvd hq) (by rw[hD];exact Nat.dvd_trans (Nat.dvd_mul_right _ _) (Nat.dvd_mul_right _ _))
 have hb:∀ q∈b,q.den ∣ D:=fun q hq=>Nat.dvd_trans (tden_dvd hq) (by rw[hD];exact Nat.dvd_trans (Nat.dvd_mul_left _ _) (Nat.dvd_mul_right _ _))
 have hcc:∀ q∈c,q.den ∣ D:=fun q hq=>Nat.dvd_trans (tden_dvd hq) (by rw[hD];exact Nat.dvd_mul_left _ _)
 have h0:0<D:=by rw[hD];exact Nat.mul_pos (Nat.mul_pos (tden_pos' _) (tden_pos' _)) (tden_pos' _)
 refine⟨vp ps (a.map (ex D)),vp ps (b.map (ex D)),vp_pos _ _ hp,vp_pos _ _ hp,sz_eq hp h0 ha,sz_eq hp h0 hb,?_⟩
 rw[sz_eq hp h0 hcc,← vp_add _ _ _ hp (by simp[hab])]
 congr 2
 refine List.ext_getElem (by rw[hc];simp) fun i h1 h2=>?_
 have i1:i<a.length:=by simp at h2;omega
 have i2:i<b.length:=by omega
 have i3:i<c.length:=by simpa using h1
 have e:c[i]=a[i]+b[i]:=by simp only[hc,List.getElem_zipWith]
 simp only[List.getElem_map,List.getElem_zipWith]
 have h3:=hcc c[i] (List.getElem_mem i3)
 rw[e] at h3 ⊢
 exact ex_add (ha _ (List.getElem_mem i1)) (hb _ (List.getElem_mem i2)) h3
theorem sz_add_ge{ps:List Int}{a b c:List Rat}(hp:∀ p∈ps,0<p)(hab:a.length=b.length)(hc:c=List.zipWith (· + ·) a b)(h1:0≤sz ps a)(h2:0≤sz ps b):0≤sz ps c:=by
 obtain⟨x,y,_,_,e1,e2,e3⟩:=sz_sum hp hab hc
 rw[e1] at h1
 rw[e2] at h2
 rw[e3]
 exact sg_mul_ge h1 h2
theorem sz_add_le{ps:List Int}{a b c:List Rat}(hp:∀ p∈ps,0<p)(hab:a.length=b.length)(hc:c=List.zipWith (· + ·) a b)(h1:sz ps a≤0)(h2:sz ps b≤0):sz ps c≤0:=by
 obtain⟨x,y,hx,_,e1,e2,e3⟩:=sz_sum hp hab hc
 rw[e1] at h1
 rw[e2] at h2
 rw[e3]
 exact sg_mul_le hx h1 h2
theorem sz_zero{ps:List Int}{l:List Rat}(hp:∀ p∈ps,0<p)(h:∀ q∈l,q=0):sz ps l=0:=by
 rw[sz_eq hp (tden_pos' l) fun q hq=>tden_dvd hq,vp_zero,sg_one]
 intro k hk
 obtain⟨q,hq,rfl⟩:=List.mem_map.1 hk
 exact ex_zero q (by rw[h q hq];rfl)
theorem sz_pos_mul{ps:List Int}{l:List Rat}(hp:∀ p∈ps,0<p)(k:Rat)(hk:0<k):sz ps (l.map fun q=>k*q)=sz ps l:=by
 have hn:0<k.num:=num_pos'.2 hk
 obtain⟨n,hn'⟩:∃ n:Nat,k.num=n:=⟨k.num.toNat,by omega⟩
 have hn0:0<n:=by omega
 have h1:∀ q∈l,q.den ∣ tden l:=fun q hq=>tden_dvd hq
 have hm:∀ q∈l,(k*q).den ∣ k.den*tden l:=by
  intro q hq
  refine Nat.dvd_trans ?_ (Nat.mul_dvd_mul (Nat.dvd_refl _) (h1 q hq))
  rw[Rat.mul_def',mkRat_den' _ _ (Nat.mul_ne_zero k.den_nz q.den_nz)]
  exact Nat.div_dvd_of_dvd (Nat.gcd_dvd_right _ _)
 have h2:∀ q∈l.map (fun q=>k*q),q.den ∣ k.den*tden l:=by
  intro q hq
  obtain⟨x,hx,rfl⟩:=List.mem_map.1 hq
  exact hm x hx
 rw[sz_eq hp (Nat.mul_pos k.den_pos (tden_pos' l)) h2,sz_eq hp (tden_pos' l) h1]
 have e:(l.map fun q=>k*q).map (ex (k.den*tden l))=(l.map (ex (tden l))).map fun z=>(n:Int)*z:=by
  rw[List.map_map,List.map_map]
  refine List.map_congr_left fun q hq=>?_
  show ex _ (k*q)=(n:Int)*ex (tden l) q
  rw[← Rat.intCast_inj,ex_eq (hm q hq),Rat.intCast_mul,ex_eq (h1 q hq),Rat.natCast_mul,← hn']
  have h3:=mul_den' k
  rw[← h3]
  grind
 rw[e,vp_nsmul _ _ hp,sg_pow (vp_pos _ _ hp) hn0]
theorem sz_mul{ps:List Int}{l:List Rat}(hp:∀ p∈ps,0<p)(k:Rat):sz ps (l.map fun q=>k*q)=k.num.sign*sz ps l:=by
 rcases rat_tri k with h|h|h
 ·have e:(l.map fun q=>k*q)=(l.map fun q=>(-k)*q).map fun q => -q:=by
   rw[List.map_map]
   refine List.map_congr_left fun q _=>?_
   show k*q = -(-k*q)
   grind
  rw[e,sz_neg hp,sz_pos_mul hp _ (by grind),Int.sign_eq_neg_one_of_neg (num_neg'.2 h)]
  omega
 ·rw[h,sz_zero hp]
  ·simp
  ·intro q hq
   obtain⟨x,_,rfl⟩:=List.mem_map.1 hq
   grind
 ·rw[sz_pos_mul hp k h,Int.sign_eq_one_of_pos (num_pos'.2 h)]
  omega
end Go.Proofs.YtnjedhgcfeoemaaGreatDoor.LN

namespace Go.Proofs.YtnjedhgcfeoemaaGreatDoor.LN
theorem zpow_nat_mul{x:Rat}(hx:x≠0)(a:Int):∀ n:Nat,(x^a)^n=x^(a*n)
 | 0=>by simp
 | n+1=>by
  rw[Rat.pow_succ,zpow_nat_mul hx a n,← Rat.zpow_add hx]
  congr 1
  rw[Int.natCast_add,Int.mul_add];simp
theorem zpow_mul'{x:Rat}(hx:x≠0)(a b:Int):(x^a)^b=x^(a*b):=by
 rcases Int.eq_nat_or_neg b with⟨n,rfl|rfl⟩
 ·rw[Rat.zpow_natCast,zpow_nat_mul hx]
 ·rw[Rat.zpow_neg,Rat.zpow_natCast,zpow_nat_mul hx,← Rat.zpow_neg]
  congr 1
  rw[Int.mul_neg]
theorem two_ne:(2:Rat)≠0:=by decide
theorem two_zpow_one_lt{a:Int}(h:0<a):(1:Rat)<2^a:=by
 obtain⟨n,rfl⟩:=Int.eq_ofNat_of_zero_le (Int.le_of_lt h)
 rw[Rat.zpow_natCast]
 exact pow_one_lt (by decide) n (by omega)
theorem two_zpow_lt_one{a:Int}(h:a<0):(2:Rat)^a<1:=by
 have h1:=two_zpow_one_lt (a := -a) (by omega)
 have h2:(2:Rat)^a*2^(-a)=1:=by rw[← Rat.zpow_add two_ne];simp[Int.add_right_neg]
 have h3:(0:Rat)<2^a:=Rat.zpow_pos (by decide)
 refine Rat.not_le.1 fun h4=>?_
 have h5:=Rat.mul_le_mul_of_nonneg_right h4 (c:=2^(-a)) (by grind)
 grind
theorem pow_le_pow'{x y:Rat}(h0:0<x)(h:x≤y):∀ n:Nat,x^n≤y^n
 | 0=>by rw[Rat.pow_zero,Rat.pow_zero];exact Rat.le_refl
 | n+1=>by
  have ih:=pow_le_pow' h0 h n
  rw[Rat.pow_succ,Rat.pow_succ]
  have h1:=Rat.mul_le_mul_of_nonneg_right ih (c:=x) (by grind)
  have h2:=Rat.mul_le_mul_of_nonneg_left h (c:=y^n) (Rat.le_of_lt (Rat.pow_pos (by grind)))
  exact Rat.le_trans h1 h2
theorem inv_le_inv{x y:Rat}(h0:0<x)(h:x≤y):y⁻¹≤x⁻¹:=by
 have hy:0<y:=by grind
 have h1:=Rat.inv_pos.2 h0
 have h2:=Rat.inv_pos.2 hy
 have e1:=Rat.mul_inv_cancel x (by grind)
 have e2:=Rat.mul_inv_cancel y (by grind)
 have h3:=Rat.mul_le_mul_of_nonneg_right h (c:=x⁻¹ * y⁻¹) (Rat.le_of_lt (Rat.mul_pos h1 h2))
 have e3:x*(x⁻¹ * y⁻¹)=y⁻¹:=by rw[← Rat.mul_assoc,e1,Rat.one_mul]
 have e4:y*(x⁻¹ * y⁻¹)=x⁻¹:=by rw[Rat.mul_comm x⁻¹,← Rat.mul_assoc,e2,Rat.one_mul]
 rw[e3,e4] at h3
 exact h3
theorem zpow_le_zpow_neg{x y:Rat}(h0:0<x)(h:x≤y){j:Int}(hj:j≤0):y^j≤x^j:=by
 obtain⟨n,hn⟩:=Int.eq_ofNat_of_zero_le (a := -j) (by omega)
 have e:j = -(n:Int):=by omega
 rw[e,Rat.zpow_neg,Rat.zpow_neg,Rat.zpow_natCast,Rat.zpow_natCast]
 exact inv_le_inv (Rat.pow_pos h0) (pow_le_pow' h0 h n)
structure Btw (v:Rat) (a b:Int):Prop where
 pos:0<v
 lo:2^a≤v
 hi:v≤2^b
theorem Btw.inv{v:Rat}{a b:Int}(h:Btw v a b):Btw v⁻¹ (-b) (-a):=by
 refine⟨Rat.inv_pos.2 h.pos,?_,?_⟩
 ·rw[Rat.zpow_neg];exact inv_le_inv h.pos h.hi
 ·rw[Rat.zpow_neg];exact inv_le_inv (Rat.zpow_pos (by decide)) h.lo
theorem Btw.zpow_neg{v:Rat}{a b:Int}(h:Btw v a b){j:Int}(hj:j≤0):Btw (v^j) (j*b) (j*a):=by
 refine⟨Rat.zpow_pos h.pos,?_,?_⟩
 ·rw[Int.mul_comm,← zpow_mul' two_ne];exact zpow_le_zpow_neg h.pos h.hi hj
 ·rw[Int.mul_comm,← zpow_mul' two_ne];exact zpow_le_zpow_neg (Rat.zpow_pos (by decide)) h.lo hj
theorem Btw.mul{v u:Rat}{a b c d:Int}(h:Btw v a b)(k:Btw u c d):Btw (v*u) (a+c) (b+d):=by
 refine⟨Rat.mul_pos h.pos k.pos,?_,?_⟩
 ·rw[Rat.zpow_add two_ne]
  have h1:=Rat.mul_le_mul_of_nonneg_right h.lo (c:=2^c) (Rat.le_of_lt (Rat.zpow_pos (by decide)))
  have h2:=Rat.mul_le_mul_of_nonneg_left k.lo (c:=v) (Rat.le_of_lt h.pos)
  exact Rat.le_trans h1 h2
 ·rw[Rat.zpow_add two_ne]
  have h1:=Rat.mul_le_mul_of_nonneg_right h.hi (c:=u) (Rat.le_of_lt k.pos)
  have h2:=Rat.mul_le_mul_of_nonneg_left k.hi (c:=2^b) (Rat.le_of_lt (Rat.zpow_pos (by decide)))
  exact Rat.le_trans h1 h2
theorem Btw.lt{v:Rat}{a b:Int}(h:Btw v a b)(hb:b<0):v<1:=by
 have:=two_zpow_lt_one hb
 have:=h.hi
 grind
def eLo (f:Int→Nat) (l:List (Int×Int)):Int:=(l.map fun x=>if x.2<0 then x.2*(hiL f x.1:Int) else x.2*(f x.1:Int)).sum
def eHi (f:Int→Nat) (l:List (Int×Int)):Int:=(l.map fun x=>if x.2<0 then x.2*(f x.1:Int) else x.2*(hiL f x.1:Int)).sum
theorem term_split(k:Int)(a b:Nat):(if k<0 then k*(b:Int) else k*(a:Int))=((k.toNat*a:Nat):Int)-(((-k).toNat*b:Nat):Int):=by
 by_cases h:k<0
 ·rw[if_pos h,show k.toNat=0 by omega]
  have e:((-k).toNat:Int) = -k:=Int.toNat_of_nonneg (by omega)
  rw[Int.natCast_mul,Int.natCast_mul,e]
  grind
 ·rw[if_neg h,show (-k).toNat=0 by omega]
  have e:(k.toNat:Int)=k:=Int.toNat_of_nonneg (by omega)
  rw[Int.natCast_mul,Int.natCast_mul,e]
  grind
theorem eLo_eq(f:Int→Nat):∀ l:List (Int×Int),eLo f l=(loS f l:Int)-(hiS f (negT l):Int)
 | []=>rfl
 | x::l=>by
  have ih:=eLo_eq f l
  unfold eLo at ih ⊢
  have e:negT (x::l)=(x.1,-x.2)::negT l:=rfl
  rw[List.map_cons,List.sum_cons,ih,e,loS,hiS,term_split]
  dsimp only
  omega
theorem eHi_eq(f:Int→Nat):∀ l:List (Int×Int),eHi f l=(hiS f l:Int)-(loS f (negT l):Int)
 | []=>rfl
 | x::l=>by
  have ih:=eHi_eq f l
  unfold eHi at ih ⊢
  have e:negT (x::l)=(x.1,-x.2)::negT l:=rfl
  rw[List.map_cons,List.sum_cons,ih,e,hiS,loS,term_split]
  dsimp only
  omega
def quoL (xl yl yh g d:Int):Int:=xl*g/((if xl<0 then yl else yh)*d)
def quoH (xh yl yh g d:Int):Int:=xh*g/((if xh<0 then yh else yl)*d)
end Go.Proofs.YtnjedhgcfeoemaaGreatDoor.LN

namespace Go.Proofs.YtnjedhgcfeoemaaGreatDoor
open Go.RowKit Go.Shelf
attribute [local go_sem] Oper.semAt_some
def lf (n:Nat):Int→Nat:=fun p=>lgN p n
structure EndI (B:Nat) (n:Int) (slo shi:ByteArray) (W:World):Prop where
 c3:W.cell? ⟨B+1,0,none⟩=some (.int .i64 n)
 c4:W.cell? ⟨B+1+1,0,none⟩=some (.string slo)
 c5:W.cell? ⟨B+1+1+1,0,none⟩=some (.string shi)
 f4:W.frozen? ⟨B+1+1,0,none⟩=false
 f5:W.frozen? ⟨B+1+1+1,0,none⟩=false
 sz:B+4<W.heap.size
theorem EndI.below{B:Nat}{n:Int}{slo shi:ByteArray}{W W':World}(h:EndI B n slo shi W)(hb:Below W.heap.size W W'):EndI B n slo shi W' :=
 ⟨(hb.cell (block_lt_of_cell h.c3)).trans h.c3,(hb.cell (block_lt_of_cell h.c4)).trans h.c4,(hb.cell (block_lt_of_cell h.c5)).trans h.c5,
  (hb.frozen (block_lt_of_cell h.c4)).trans h.f4,(hb.frozen (block_lt_of_cell h.c5)).trans h.f5,Nat.lt_of_lt_of_le h.sz hb.size⟩
theorem EndI.kept{B:Nat}{n:Int}{slo shi:ByteArray}{W W':World}{row:Option Nat}(h:EndI B n slo shi W)(hg:W.grownBy W' row)(hr:∀ r,row=some r→∃ o:Obj,W.heap[r]?=some o∧o.isCells=false):EndI B n slo shi W' :=
 ⟨cell_kept h.c3 hg hr,cell_kept h.c4 hg hr,cell_kept h.c5 hg hr,(frozen_kept h.c4 hg hr).trans h.f4,(frozen_kept h.c5 hg hr).trans h.f5,Nat.lt_of_lt_of_le h.sz hg.size⟩
theorem EndI.stored{B:Nat}{n:Int}{slo shi:ByteArray}{W:World}(h:EndI B n slo shi W)(s t:ByteArray):
  EndI B n s t ((W.setCell ⟨B+1+1,0,none⟩ (.string s)).setCell ⟨B+1+1+1,0,none⟩ (.string t)):=by
 refine⟨?_,?_,?_,?_,?_,?_⟩
 ·rw[World.cell?_setCell_other _ _ _ _ (by simp),World.cell?_setCell_other _ _ _ _ (by simp)];exact h.c3
 ·rw[World.cell?_setCell_other _ _ _ _ (by simp),World.cell?_setCell_same _ _ _ h.c4]
 ·rw[World.cell?_setCell_same _ _ _ (by rw[World.cell?_setCell_other _ _ _ _ (by simp)];exact h.c5)]
 ·rw[World.frozen?_setCell,World.frozen?_setCell];exact h.f4
 ·rw[World.frozen?_setCell,World.frozen?_setCell];exact h.f5
 ·rw[World.size_setCell,World.size_setCell];exact h.sz
theorem ends_kt{B:Nat}{W0 W W4:World}(hB:W0.heap.size=B)(hb:Below W0.heap.size W0 W)(hsz:B+4<W.heap.size)(h:Below W.heap.size W W4)(v5 v6:Value):
  KT B (B+4) W ((W4.setCell ⟨B+1+1,0,none⟩ v5).setCell ⟨B+1+1+1,0,none⟩ v6):=by
 subst hB
 refine⟨((h.mono hb.size).setCell (p:=⟨W0.heap.size+1+1,0,none⟩) (by show _≤W0.heap.size+1+1;omega) _).setCell (p:=⟨W0.heap.size+1+1+1,0,none⟩) (by show _≤W0.heap.size+1+1+1;omega) _,?_⟩
 rw[obj_other (g:=W0.heap.size+1+1+1) (k:=W0.heap.size+4) (by omega),obj_other (g:=W0.heap.size+1+1) (k:=W0.heap.size+4) (by omega),h.block _ hsz]
theorem boxes4(w:World)(o1:Obj)(v2 v3 v4:Value)(t2 t3 t4:TypeId)(W:World)(hW:(((w.alloc o1).alloc (.cells #[v2] t2)).alloc (.cells #[v3] t3)).alloc (.cells #[v4] t4)=W):
  W.heap[w.heap.size+1]?=some (.cells #[v2] t2 (0,0))∧W.heap[w.heap.size+1+1]?=some (.cells #[v3] t3 (0,0))∧W.heap[w.heap.size+1+1+1]?=some (.cells #[v4] t4 (0,0)):=by
 subst hW
 exact⟨heap_old (heap_old (heap_at _ _ _ _ (by simp)) _) _,heap_old (heap_at _ _ _ _ (by simp)) _,heap_at _ _ _ _ (by simp)⟩
def PrT (tl:List (Int×Int)):Prop:=∀ x∈tl,∃ q:Nat,x.1=q∧(q=2∨q∈oddP)
theorem eLo_snoc(f:Int→Nat)(l:List (Int×Int))(x:Int×Int):LN.eLo f (l++[x])=LN.eLo f l+(if x.2<0 then x.2*(LN.hiL f x.1:Int) else x.2*(f x.1:Int)):=by simp[LN.eLo]
theorem eHi_snoc(f:Int→Nat)(l:List (Int×Int))(x:Int×Int):LN.eHi f (l++[x])=LN.eHi f l+(if x.2<0 then x.2*(f x.1:Int) else x.2*(LN.hiL f x.1:Int)):=by simp[LN.eHi]
theorem lf_lt{n:Nat}{p:Int}(hp:∃ q:Nat,p=q∧(q=2∨q∈oddP))(hn:n≤1056):lf n p<2^(n+3)∧LN.hiL (lf n) p<2^(n+3):=by
 obtain⟨q,rfl,hq⟩:=hp
 have h:=lgN_le hq hn
 have e:2^(n+3)=8*2^n:=by rw[Nat.pow_add,Nat.mul_comm]
 have h1:=Nat.two_pow_pos n
 have h2:lf n q<7*2^n:=h
 refine⟨by omega,?_⟩
 unfold LN.hiL
 split<;>omega
theorem abs_mul_lt{k:Int}{a E F:Nat}(hk:k.natAbs<2^E)(ha:a<2^F):(k*(a:Int)).natAbs<2^(E+F):=by
 rw[Int.natAbs_mul,Int.natAbs_natCast,Nat.pow_add]
 exact Nat.mul_lt_mul'' hk ha
theorem eSum_le{n E:Nat}(hn:n≤1056):∀ l:List (Int×Int),PrT l→(∀ x∈l,x.2.natAbs<2^E)→(LN.eLo (lf n) l).natAbs≤l.length*2^(E+(n+3))∧(LN.eHi (lf n) l).natAbs≤l.length*2^(E+(n+3))
 | [],_,_=>by simp[LN.eLo,LN.eHi]
 | x::l,hp,hk=>by
  have ih:=eSum_le hn l (fun y hy=>hp y (List.mem_cons_of_mem _ hy)) (fun y hy=>hk y (List.mem_cons_of_mem _ hy))
  obtain⟨h1,h2⟩:=lf_lt (hp x List.mem_cons_self) hn
  have hx:=hk x List.mem_cons_self
  have a1:=abs_mul_lt hx h1
  have a2:=abs_mul_lt hx h2
  have e1:LN.eLo (lf n) (x::l)=(if x.2<0 then x.2*(LN.hiL (lf n) x.1:Int) else x.2*(lf n x.1:Int))+LN.eLo (lf n) l:=by simp[LN.eLo]
  have e2:LN.eHi (lf n) (x::l)=(if x.2<0 then x.2*(lf n x.1:Int) else x.2*(LN.hiL (lf n) x.1:Int))+LN.eHi (lf n) l:=by simp[LN.eHi]
  rw[e1,e2,List.length_cons,Nat.add_mul,Nat.one_mul]
  generalize 2^(E+(n+3))=T at *
  generalize l.length*T=S at *
  constructor
  ·refine Nat.le_trans (Int.natAbs_add_le _ _) ?_
   split<;>omega
  ·refine Nat.le_trans (Int.natAbs_add_le _ _) ?_
   split<;>omega
theorem eSum_num{n E:Nat}(hn:n≤1056)(l:List (Int×Int))(hl:l.length≤1000)(hp:PrT l)(hk:∀ x∈l,x.2.natAbs<2^E):
  (LN.eLo (lf n) l).natAbs<2^(E+(n+3)+10)∧(LN.eHi (lf n) l).natAbs<2^(E+(n+3)+10):=by
 obtain⟨h1,h2⟩:=eSum_le hn l hp hk
 have h3:l.length*2^(E+(n+3))≤1000*2^(E+(n+3)):=Nat.mul_le_mul_right _ hl
 have e:2^(E+(n+3)+10)=1024*2^(E+(n+3)):=by rw[Nat.pow_add _ _ 10,Nat.mul_comm]
 have h4:=Nat.two_pow_pos (E+(n+3))
 rw[e]
 constructor<;>omega
theorem EndI.cast{B:Nat}{n:Int}{s s' t t':ByteArray}{W:World}(h:EndI B n s t W)(e1:s'=s)(e2:t'=t):EndI B n s' t' W:=by subst e1;subst e2;exact h
theorem addZ(w:World)(a b:Int)(K:Nat)(hK:K<90000)(ha:a.natAbs<2^K)(hb:b.natAbs<2^K)(L:Laid w):Gives Tryz.prog 20 #[.string (itx a),.string (itx b)] w (.string (itx (a+b))) :=
 addz_any w a b (num_two ha (by omega)) (num_two hb (by omega)) (num_two (K:=K+1) (by rw[Nat.pow_succ];omega) (by omega)) L
theorem mulZ(w:World)(a b:Int)(K M:Nat)(hK:K+M<90000)(ha:a.natAbs<2^K)(hb:b.natAbs<2^M)(L:Laid w):Gives Tryz.prog 115 #[.string (itx a),.string (itx b)] w (.string (itx (a*b))) :=
 mulz_any w a b (num_two ha (by omega)) (num_two hb (by omega)) (num_two (K:=K+M) (by rw[Int.natAbs_mul,Nat.pow_add];exact Nat.mul_lt_mul'' ha hb) (by omega)) L
def endsAct (w:World) (b1 b2:Option Addr) (d1 d2 D m:Nat) (n:Int) (p:Int) (k:ByteArray):Act:={ tmps := #[.agg (tcells b1 d1 b2 d2 m D),.int .i64 n,.pointer (some ⟨w.heap.size,0,none⟩),.pointer (some ⟨w.heap.size+1,0,none⟩),.pointer (some ⟨w.heap.size+1+1,0,none⟩),.pointer (some ⟨w.heap.size+1+1+1,0,none⟩),.int .i64 p,.string k,undef,undef,.agg #[.slice b1 m d1,.slice b2 m d2,.string (dec D)],.func (.func 241) #[] #[.pointer (some ⟨w.heap.size+1+1+1+1,0,none⟩)],.int .i64 p,.string k,undef,undef,undef,undef,undef,undef,undef,undef,undef,undef,undef,undef,undef,undef,undef,undef,undef,undef,undef,undef,undef,undef,undef,undef,undef,undef,undef],defers:=[] }
theorem ends_any(w:World)(b1 b2:Option Addr)(d1 d2 D n E:Nat)(tl:List (Int×Int))(T:TermsAt w tl b1 b2)(hP:PrT tl)(hE:E≤20000)(hK:∀ x∈tl,x.2.natAbs<2^E)(hn:n≤1056)(L:Laid w):
  Gives Tryz.prog 172 #[.agg (tcells b1 d1 b2 d2 tl.length D),.int .i64 n] w (.tuple #[.string (itx (LN.eLo (lf n) tl)),.string (itx (LN.eHi (lf n) tl))]):=by
 unfold Gives
 have hr1:=T.r1
 have hr2:=T.r2
 have hl:=T.len
 refine(callsIn_wide (n:=3)).1 ?_
 refine callsIn_of_wp_marks Tryz.func172 rfl trivial ?_ rfl
 simp only[Tryz.ntmps172,List.size_toArray,List.length_cons,List.length_nil,Nat.reduceAdd,Nat.reduceSub,Array.replicate_succ,Array.replicate_zero,List.push_toArray,List.append_toArray,List.nil_append,List.cons_append]
 have HT:=hd_ T
 have HL:=hd_ L
 have Hn:=hd_ hn
 have HE:=hd_ hE
 have HP:=hd_ hP
 have HK:=hd_ hK
 have H0:Hid (itx 0=⟨#[48]⟩):=by show _=_;rw[show (0:Int)=((0:Nat):Int) from rfl,itx_nat,dec_zero]
 clear L T hn hE hK hP
 gi_wp2_with fail
 obtain⟨w0,hw0⟩:∃ w0,(((w.alloc (Obj.cells (tcells b1 d1 b2 d2 tl.length D) 163)).alloc (Obj.cells #[Value.int IntKind.i64 n] 3)).alloc (Obj.cells #[Value.string ⟨#[48]⟩] 25)).alloc (Obj.cells #[Value.string ⟨#[48]⟩] 25)=w0:=⟨_,rfl⟩
 have hsz0:w0.heap.size=w.heap.size+4:=by rw[← hw0];simp
 have hB0:Below w.heap.size w w0:=by rw[← hw0];exact((((Below.refl _ w).alloc nr_ _).alloc (by simp) _).alloc (by simp;omega) _).alloc (by simp;omega) _
 have hbox:=boxes4 w _ _ _ _ _ _ _ w0 hw0
 rw[hw0]
 refine⟨trivial,?_⟩
 refine(callsIn_wide.2 (all_any w0 b1 b2 d1 d2 tl.length D)).mono ?_
 rintro e w' ⟨rfl,rfl⟩
 rw[hsz0]
 have hB5:(w0.alloc (.cells (tcells b1 d1 b2 d2 tl.length D) 163)).heap[w.heap.size+4]?=some (.cells (tcells b1 d1 b2 d2 tl.length D) 163 (0,0)):=by
  rw[← hsz0];exact Go.heap_alloc_new w0 _
 have hB1:Below w.heap.size w (w0.alloc (.cells (tcells b1 d1 b2 d2 tl.length D) 163)):=hB0.alloc (by omega) _
 have hsz1:(w0.alloc (.cells (tcells b1 d1 b2 d2 tl.length D) 163)).heap.size=w.heap.size+5:=by rw[World.size_alloc,hsz0]
 have hI1:EndI w.heap.size n (itx (LN.eLo (lf n) [])) (itx (LN.eHi (lf n) [])) (w0.alloc (.cells (tcells b1 d1 b2 d2 tl.length D) 163)):=by
  obtain⟨h1,h2,h3⟩:=hbox
  have h1:=heap_old h1 (.cells (tcells b1 d1 b2 d2 tl.length D) 163)
  have h2:=heap_old h2 (.cells (tcells b1 d1 b2 d2 tl.length D) 163)
  have h3:=heap_old h3 (.cells (tcells b1 d1 b2 d2 tl.length D) 163)
  have e1:itx (LN.eLo (lf n) [])=⟨#[48]⟩:=H0.out
  have e2:itx (LN.eHi (lf n) [])=⟨#[48]⟩:=H0.out
  rw[e1,e2]
  exact⟨(one_cell h1).1,(one_cell h2).1,(one_cell h3).1,(one_cell h2).2,(one_cell h3).2,by rw[hsz1];omega⟩
 clear hB0 hw0 hbox H0
 generalize w0.alloc (.cells (tcells b1 d1 b2 d2 tl.length D) 163)=w1 at *
 gi_wp2_with fail
 refine wpIn_rangeFunc_ownF rfl (by decide) (gf:=241) (lb := #[.pointer (some ⟨w.heap.size+4,0,none⟩)]) rfl trivial (enters_of Tryz.func241 (by kernel_rfl) rfl)
  (all_stops 2 (by decide) w w1 hB1 (w.heap.size+4) b1 b2 d1 d2 D tl hl hB5 hr1 hr2) kt_t (kt_b (by rw[hsz1];omega) (by rw[hsz1];omega)) (Below.refl _ _) (fun _=>rfl)
  (fun pre W=>EndI w.heap.size n (itx (LN.eLo (lf n) (pre.map Subtype.val))) (itx (LN.eHi (lf n) (pre.map Subtype.val))) W∧Below w.heap.size w W)
  (fun _ _ W=>False∧Below w.heap.size w W)
  (OwnFrom.and (Own.from (fun s A B row hs hg hr=>hs.kept hg hr) _) (ownFrom_below nr_ (by rw[hsz1];omega)))
  (fun c=>OwnFrom.and (Own.from (fun s A B row hs hg hr=>hs.elim) _) (ownFrom_below nr_ (by rw[hsz1];omega)))
  ⟨hI1,hB1⟩
  (fun x=>endsAct w b1 b2 d1 d2 D tl.length n x.1.1 (itx x.1.2)) ?assign ?body ?done ?stop
 case assign =>
  intro l x W K hK
  unfold endsAct at hK
  gi_wp2
  exact hK
 case body =>
  rintro l pre ⟨⟨p,k⟩,hmem⟩ W0 ⟨hI,hB⟩ hlen
  have HI:=hd_ hI
  have HB:=hd_ hB
  have hpp:=HP.out _ hmem
  have hkk:=HK.out _ hmem
  simp only at hpp hkk
  have hn:=Hn.out
  have hE:=HE.out
  obtain⟨g1,g2⟩:=lf_lt hpp hn
  have hsub:∀ x∈pre.map Subtype.val,x∈tl:=fun x hx=>by
   obtain⟨y,_,rfl⟩:=List.mem_map.1 hx
   exact y.2
  have hpl:(pre.map Subtype.val).length≤1000:=by rw[List.length_map];omega
  obtain⟨s1,s2⟩:=eSum_num hn (pre.map Subtype.val) hpl (fun x hx=>HP.out x (hsub x hx)) (fun x hx=>HK.out x (hsub x hx))
  have e1:LN.eLo (lf n) ((pre++[(⟨(p,k),hmem⟩:{x // x∈tl})]).map Subtype.val)=LN.eLo (lf n) (pre.map Subtype.val)+(if k<0 then (LN.hiL (lf n) p:Int)*k else (lf n p:Int)*k):=by
   rw[List.map_append]
   have:=eLo_snoc (lf n) (pre.map Subtype.val) (p,k)
   simp only at this
   rw[Int.mul_comm k,Int.mul_comm k] at this
   exact this
  have e2:LN.eHi (lf n) ((pre++[(⟨(p,k),hmem⟩:{x // x∈tl})]).map Subtype.val)=LN.eHi (lf n) (pre.map Subtype.val)+(if k<0 then (lf n p:Int)*k else (LN.hiL (lf n) p:Int)*k):=by
   rw[List.map_append]
   have:=eHi_snoc (lf n) (pre.map Subtype.val) (p,k)
   simp only at this
   rw[Int.mul_comm k,Int.mul_comm k] at this
   exact this
  have Hlog:Hid (∀ W,Below w.heap.size w W→Gives Tryz.prog 212 #[.int .i64 p,.int .i64 n] W (.string (dec (lf n p)))):=fun W hW=>by
   obtain⟨q,rfl,hq⟩:=hpp
   exact log_any W q n hq hn (HL.out.below hW)
  have Hm1:Hid (∀ W,Below w.heap.size w W→Gives Tryz.prog 115 #[.string (dec (lf n p)),.string (itx k)] W (.string (itx ((lf n p:Int)*k)))):=fun W hW=>by
   have:=mulZ W (lf n p:Int) k (n+3) E (by omega) (by rw[Int.natAbs_natCast];exact g1) hkk (HL.out.below hW)
   rw[itx_nat] at this;exact this
  have Hm2:Hid (∀ W,Below w.heap.size w W→Gives Tryz.prog 115 #[.string (dec (LN.hiL (lf n) p)),.string (itx k)] W (.string (itx ((LN.hiL (lf n) p:Int)*k)))):=fun W hW=>by
   have:=mulZ W (LN.hiL (lf n) p:Int) k (n+3) E (by omega) (by rw[Int.natAbs_natCast];exact g2) hkk (HL.out.below hW)
   rw[itx_nat] at this;exact this
  have Hsg:Hid (∀ W,Below w.heap.size w W→Gives Tryz.prog 84 #[.string (itx k)] W (.int .i64 k.sign)):=fun W _=>sign_any W k
  have t1:((lf n p:Int)*k).natAbs<2^(E+(n+3)+10):=by
   have:=abs_mul_lt hkk g1
   rw[Int.mul_comm] at this
   exact Nat.lt_of_lt_of_le this (Nat.pow_le_pow_right (by decide) (by omega))
  have t2:((LN.hiL (lf n) p:Int)*k).natAbs<2^(E+(n+3)+10):=by
   have:=abs_mul_lt hkk g2
   rw[Int.mul_comm] at this
   exact Nat.lt_of_lt_of_le this (Nat.pow_le_pow_right (by decide) (by omega))
  have hF:E+(n+3)+10<90000:=by omega
  have one:1<2^(n+3):=Nat.one_lt_two_pow (by omega)
  have Had:Hid (∀ W,Below w.heap.size w W→Gives Tryz.prog 20 #[.string (dec (lf n p)),.string ⟨#[49]⟩] W (.string (dec (lf n p+1)))):=fun W hW=>by
   have:=addD W (lf n p) 1 (n+3) (by omega) g1 one (HL.out.below hW)
   rw[dec_one] at this;exact this
  generalize E+(n+3)+10=F at *
  unfold endsAct
  have Hk0:=hd_ (Below.refl W0.heap.size W0)
  have HI0:=HI
  have HB0:=HB
  have hw2:(k.sign = -1∧k<0)∨(0≤k.sign∧k.sign≤1∧¬ k<0):=by
   rcases Int.lt_trichotomy k 0 with h|h|h
   ·exact .inl ⟨Int.sign_eq_neg_one_of_neg h,h⟩
   ·subst h;exact .inr ⟨by decide,by decide,by decide⟩
   ·rw[Int.sign_eq_one_of_pos h];exact .inr ⟨by decide,by decide,by omega⟩
  clear hI hB hr1 hr2 hI1 hB1 hB5 hpp hkk hsub g1 g2 one
  have hc3:=HI0.out.c3
  have hc4:=HI0.out.c4
  have hc5:=HI0.out.c5
  have hf4:=HI0.out.f4
  have hf5:=HI0.out.f5
  have HLL:Hid (∀ W,Below w.heap.size w W→Laid W):=fun W hW=>HL.out.below hW
  by_cases hp2:p=2
  ·subst hp2
   have hH:LN.hiL (lf n) 2=lf n 2:=by unfold LN.hiL;rw[if_pos rfl]
   rw[hH] at Hm2 e1 e2 t2
   clear hH
   rcases hw2 with⟨hs,hk⟩|⟨hs1,hs2,hk⟩
   ·rw[if_pos hk] at e1 e2
    rw[hs] at Hsg
    clear hs
    have Ha1:Hid (∀ W,Below w.heap.size w W→Gives Tryz.prog 20 #[.string (itx (LN.eLo (lf n) (pre.map Subtype.val))),.string (itx ((lf n 2:Int)*k))] W (.string (itx ((LN.eLo (lf n) (pre.map Subtype.val))+(lf n 2:Int)*k)))):=fun W hW=>addZ W _ _ F hF s1 t2 (HLL.out W hW)
    have Ha2:Hid (∀ W,Below w.heap.size w W→Gives Tryz.prog 20 #[.string (itx (LN.eHi (lf n) (pre.map Subtype.val))),.string (itx ((lf n 2:Int)*k))] W (.string (itx ((LN.eHi (lf n) (pre.map Subtype.val))+(lf n 2:Int)*k)))):=fun W hW=>addZ W _ _ F hF s2 t1 (HLL.out W hW)
    rw[← e1] at Ha1
    rw[← e2] at Ha2
    clear e1 e2 s1 s2 t1 t2 HLL hlen hpl hF
    obtain⟨slo2,hq1⟩:∃ s,itx (LN.eLo (lf n) ((pre++[(⟨(2,k),hmem⟩:{x // x∈tl})]).map Subtype.val))=s:=⟨_,rfl⟩
    obtain⟨shi2,hq2⟩:∃ s,itx (LN.eHi (lf n) ((pre++[(⟨(2,k),hmem⟩:{x // x∈tl})]).map Subtype.val))=s:=⟨_,rfl⟩
    rw[hq1] at Ha1
    rw[hq2] at Ha2
    have Hf1:=hd_ hq1
    have Hf2:=hd_ hq2
    clear hq1 hq2
    generalize itx (LN.eLo (lf n) (pre.map Subtype.val))=slo at *
    generalize itx (LN.eHi (lf n) (pre.map Subtype.val))=shi at *
    generalize itx k=sk at *
    generalize itx ((lf n 2:Int)*k)=sa at *
    generalize dec (lf n 2)=sL at *
    clear Had
    gi_wp2_with fail
    refine⟨trivial,?_⟩
    refine(CallsIn.inRound l (callsIn_wide.2 (Hlog.out W0 HB0.out))).mono ?_
    rintro e W1 ⟨rfl,hb⟩
    have HI1:=hd_ (HI0.out.below hb)
    have HB1:=hd_ (HB0.out.trans (hb.mono HB0.out.size))
    have Hk1:=hd_ (Hk0.out.trans (hb.mono Hk0.out.size))
    clear hb hc3 hc4 hc5 hf4 hf5 Hlog HI0 HB0 Hk0
    have hc3:=HI1.out.c3
    have hc4:=HI1.out.c4
    have hc5:=HI1.out.c5
    have hf4:=HI1.out.f4
    have hf5:=HI1.out.f5
    gi_wp2_with fail
    refine⟨trivial,?_⟩
    refine(CallsIn.inRound l (callsIn_wide.2 (Hm1.out W1 HB1.out))).mono ?_
    rintro e W2 ⟨rfl,hb⟩
    have HI2:=hd_ (HI1.out.below hb)
    have HB2:=hd_ (HB1.out.trans (hb.mono HB1.out.size))
    have Hk2:=hd_ (Hk1.out.trans (hb.mono Hk1.out.size))
    clear hb hc3 hc4 hc5 hf4 hf5 Hm1 HI1 HB1 Hk1
    have hc3:=HI2.out.c3
    have hc4:=HI2.out.c4
    have hc5:=HI2.out.c5
    have hf4:=HI2.out.f4
    have hf5:=HI2.out.f5
    gi_wp2_with fail
    refine⟨trivial,?_⟩
    refine(CallsIn.inRound l (callsIn_wide.2 (Hm2.out W2 HB2.out))).mono ?_
    rintro e W3 ⟨rfl,hb⟩
    have HI3:=hd_ (HI2.out.below hb)
    have HB3:=hd_ (HB2.out.trans (hb.mono HB2.out.size))
    have Hk3:=hd_ (Hk2.out.trans (hb.mono Hk2.out.size))
    clear hb hc3 hc4 hc5 hf4 hf5 Hm2 HI2 HB2 Hk2
    have hc3:=HI3.out.c3
    have hc4:=HI3.out.c4
    have hc5:=HI3.out.c5
    have hf4:=HI3.out.f4
    have hf5:=HI3.out.f5
    gi_wp2_with fail
    refine⟨trivial,?_⟩
    refine(CallsIn.inRound l (callsIn_wide.2 (Hsg.out W3 HB3.out))).mono ?_
    rintro e W4 ⟨rfl,hb⟩
    have HI4:=hd_ (HI3.out.below hb)
    have HB4:=hd_ (HB3.out.trans (hb.mono HB3.out.size))
    have Hk4:=hd_ (Hk3.out.trans (hb.mono Hk3.out.size))
    clear hb hc3 hc4 hc5 hf4 hf5 Hsg HI3 HB3 Hk3
    have hc3:=HI4.out.c3
    have hc4:=HI4.out.c4
    have hc5:=HI4.out.c5
    have hf4:=HI4.out.f4
    have hf5:=HI4.out.f5
    gi_wp2_with fail
    have q0:=@CellW.h
    have q9:Nonempty (CellW ⟨w.heap.size+1+1,0,none⟩ (.string slo)):=⟨⟨W4,HI4.out.c4⟩⟩
    have q8:Nonempty (CellW ⟨w.heap.size+1+1+1,0,none⟩ (.string shi)):=⟨⟨W4,HI4.out.c5⟩⟩
    refine wpIn_region_readers2 [(8,0),(1,1),(9,3),(1,4),(0,2),(0,5),(0,6),(0,7)]
     [(6,fun w'=>∃ p:CellW ⟨w.heap.size+1+1,0,none⟩ (.string slo),w'=p.w),(7,fun w'=>∃ p:CellW ⟨w.heap.size+1+1+1,0,none⟩ (.string shi),w'=p.w)]
     (by kernel_rfl) (by kernel_rfl) ⟨.inr ⟨⟨{ W4 with drawn:=W4.drawn+1 },HI4.out.c4⟩,rfl⟩,.inr ⟨⟨{ W4 with drawn:=W4.drawn+1 },HI4.out.c5⟩,rfl⟩,trivial⟩ ?_
    refine walkR2_read (s:=6) _ (List.mem_cons_self ..) rfl ?_
    simp only[dz_,tsc_,tz_]
    go_big_quiet_step (fail)
    refine wpQuiet_nil ?_
    refine walkR2_any ?_
    simp only[dsc_,dz_,tsc_,tz_]
    go_big_quiet_step (fail)
    refine wpQuiet_nil ?_
    refine walkR2_read (s:=7) _ (List.mem_cons_of_mem _ (List.mem_cons_self ..)) rfl ?_
    simp only[dsc_,dz_,tsc_,tz_]
    go_big_quiet_step (fail)
    refine wpQuiet_nil ?_
    refine walkR2_any ?_
    simp only[dsc_,dz_,tsc_,tz_]
    go_big_quiet_step (fail)
    refine wpQuiet_nil ?_
    clear q0 q8 q9 hc3 hc4 hc5 hf4 hf5
    obtain⟨V0,hV0⟩:∃ V0:World,{ heap:=W4.heap,tape:=W4.tape,drawn:=W4.drawn+1,os:=W4.os,output:=W4.output }=V0:=⟨_,rfl⟩
    rw[hV0]
    have hdr:Below W4.heap.size W4 V0:=by rw[← hV0];exact⟨rfl,rfl,rfl,Nat.le_refl _,fun _ _=>rfl⟩
    have HJ0:=hd_ (HI4.out.below hdr)
    have HC0:=hd_ (HB4.out.trans (hdr.mono HB4.out.size))
    have Hl0:=hd_ (Hk4.out.trans (hdr.mono Hk4.out.size))
    clear hV0 hdr HI4 HB4 Hk4
    refine walkR2_move ?_
    simp only[dsc_,dz_,tsc_,tz_]
    go_wp2_with fail
    refine cm_ (Ha1.out V0 HC0.out) ?_
    rintro e V1 ⟨rfl,hb⟩
    have HJ1:=hd_ (HJ0.out.below hb)
    have HC1:=hd_ (HC0.out.trans (hb.mono HC0.out.size))
    have Hl1:=hd_ (Hl0.out.trans (hb.mono Hl0.out.size))
    clear hb HJ0 HC0 Hl0 Ha1
    go_wp2_with fail
    refine⟨⟨.inr ⟨⟨V1,HJ1.out.c4⟩,rfl⟩,.inr ⟨⟨V1,HJ1.out.c5⟩,rfl⟩,trivial⟩,?_⟩
    refine walkR2_move ?_
    simp only[dsc_,dz_,tsc_,tz_]
    go_wp2_with fail
    refine cm_ (Ha2.out V1 HC1.out) ?_
    rintro e V2 ⟨rfl,hb⟩
    have HJ2:=hd_ (HJ1.out.below hb)
    have HC2:=hd_ (HC1.out.trans (hb.mono HC1.out.size))
    have Hl2:=hd_ (Hl1.out.trans (hb.mono Hl1.out.size))
    clear hb HJ1 HC1 Hl1 Ha2
    go_wp2_with fail
    refine⟨⟨.inr ⟨⟨V2,HJ2.out.c4⟩,rfl⟩,.inr ⟨⟨V2,HJ2.out.c5⟩,rfl⟩,trivial⟩,?_⟩
    have hc4:=HJ2.out.c4
    have hc5:=HJ2.out.c5
    have hf4:=HJ2.out.f4
    have hf5:=HJ2.out.f5
    refine walkR2_move ?_
    simp only[dsc_,dz_,tsc_,tz_]
    go_wp2_with fail
    have hc52:(V2.setCell ⟨w.heap.size+1+1,0,none⟩ (.string slo2)).cell? ⟨w.heap.size+1+1+1,0,none⟩=some (.string shi):=by
     rw[World.cell?_setCell_other _ _ _ _ (by simp)];exact HJ2.out.c5
    have hf52:(V2.setCell ⟨w.heap.size+1+1,0,none⟩ (.string slo2)).frozen? ⟨w.heap.size+1+1+1,0,none⟩=false:=by rw[World.frozen?_setCell];exact HJ2.out.f5
    refine⟨⟨.inl rfl,.inr ⟨⟨V2.setCell ⟨w.heap.size+1+1,0,none⟩ (.string slo2),hc52⟩,rfl⟩,trivial⟩,?_⟩
    clear hc4 hc5 hf4 hf5
    refine walkR2_move ?_
    simp only[dsc_,dz_,tsc_,tz_]
    go_wp2_with fail
    refine⟨⟨.inl rfl,.inl rfl,trivial⟩,?_⟩
    simp only[walkR2]
    exact⟨(keeps_of_below Hl2.out).trans ((KeepsOthers.setCell _ _ _).trans (KeepsOthers.setCell _ _ _)),ends_kt rfl HB.out HI.out.sz Hl2.out _ _,(HJ2.out.stored _ _).cast Hf1.out Hf2.out,near_below HC2.out _ _⟩
   ·rw[if_neg hk] at e1 e2
    have hs':¬ k.sign<0:=by omega
    have Ha1:Hid (∀ W,Below w.heap.size w W→Gives Tryz.prog 20 #[.string (itx (LN.eLo (lf n) (pre.map Subtype.val))),.string (itx ((lf n 2:Int)*k))] W (.string (itx ((LN.eLo (lf n) (pre.map Subtype.val))+(lf n 2:Int)*k)))):=fun W hW=>addZ W _ _ F hF s1 t1 (HLL.out W hW)
    have Ha2:Hid (∀ W,Below w.heap.size w W→Gives Tryz.prog 20 #[.string (itx (LN.eHi (lf n) (pre.map Subtype.val))),.string (itx ((lf n 2:Int)*k))] W (.string (itx ((LN.eHi (lf n) (pre.map Subtype.val))+(lf n 2:Int)*k)))):=fun W hW=>addZ W _ _ F hF s2 t2 (HLL.out W hW)
    generalize k.sign=sg at *
    rw[← e1] at Ha1
    rw[← e2] at Ha2
    clear e1 e2 s1 s2 t1 t2 HLL hlen hpl hF
    obtain⟨slo2,hq1⟩:∃ s,itx (LN.eLo (lf n) ((pre++[(⟨(2,k),hmem⟩:{x // x∈tl})]).map Subtype.val))=s:=⟨_,rfl⟩
    obtain⟨shi2,hq2⟩:∃ s,itx (LN.eHi (lf n) ((pre++[(⟨(2,k),hmem⟩:{x // x∈tl})]).map Subtype.val))=s:=⟨_,rfl⟩
    rw[hq1] at Ha1
    rw[hq2] at Ha2
    have Hf1:=hd_ hq1
    have Hf2:=hd_ hq2
    clear hq1 hq2
    generalize itx (LN.eLo (lf n) (pre.map Subtype.val))=slo at *
    generalize itx (LN.eHi (lf n) (pre.map Subtype.val))=shi at *
    generalize itx k=sk at *
    generalize itx ((lf n 2:Int)*k)=sa at *
    generalize dec (lf n 2)=sL at *
    clear Had
    gi_wp2_with fail
    refine⟨trivial,?_⟩
    refine(CallsIn.inRound l (callsIn_wide.2 (Hlog.out W0 HB0.out))).mono ?_
    rintro e W1 ⟨rfl,hb⟩
    have HI1:=hd_ (HI0.out.below hb)
    have HB1:=hd_ (HB0.out.trans (hb.mono HB0.out.size))
    have Hk1:=hd_ (Hk0.out.trans (hb.mono Hk0.out.size))
    clear hb hc3 hc4 hc5 hf4 hf5 Hlog HI0 HB0 Hk0
    have hc3:=HI1.out.c3
    have hc4:=HI1.out.c4
    have hc5:=HI1.out.c5
    have hf4:=HI1.out.f4
    have hf5:=HI1.out.f5
    gi_wp2_with fail
    refine⟨trivial,?_⟩
    refine(CallsIn.inRound l (callsIn_wide.2 (Hm1.out W1 HB1.out))).mono ?_
    rintro e W2 ⟨rfl,hb⟩
    have HI2:=hd_ (HI1.out.below hb)
    have HB2:=hd_ (HB1.out.trans (hb.mono HB1.out.size))
    have Hk2:=hd_ (Hk1.out.trans (hb.mono Hk1.out.size))
    clear hb hc3 hc4 hc5 hf4 hf5 Hm1 HI1 HB1 Hk1
    have hc3:=HI2.out.c3
    have hc4:=HI2.out.c4
    have hc5:=HI2.out.c5
    have hf4:=HI2.out.f4
    have hf5:=HI2.out.f5
    gi_wp2_with fail
    refine⟨trivial,?_⟩
    refine(CallsIn.inRound l (callsIn_wide.2 (Hm2.out W2 HB2.out))).mono ?_
    rintro e W3 ⟨rfl,hb⟩
    have HI3:=hd_ (HI2.out.below hb)
    have HB3:=hd_ (HB2.out.trans (hb.mono HB2.out.size))
    have Hk3:=hd_ (Hk2.out.trans (hb.mono Hk2.out.size))
    clear hb hc3 hc4 hc5 hf4 hf5 Hm2 HI2 HB2 Hk2
    have hc3:=HI3.out.c3
    have hc4:=HI3.out.c4
    have hc5:=HI3.out.c5
    have hf4:=HI3.out.f4
    have hf5:=HI3.out.f5
    gi_wp2_with fail
    refine⟨trivial,?_⟩
    refine(CallsIn.inRound l (callsIn_wide.2 (Hsg.out W3 HB3.out))).mono ?_
    rintro e W4 ⟨rfl,hb⟩
    have HI4:=hd_ (HI3.out.below hb)
    have HB4:=hd_ (HB3.out.trans (hb.mono HB3.out.size))
    have Hk4:=hd_ (Hk3.out.trans (hb.mono Hk3.out.size))
    clear hb hc3 hc4 hc5 hf4 hf5 Hsg HI3 HB3 Hk3
    have hc3:=HI4.out.c3
    have hc4:=HI4.out.c4
    have hc5:=HI4.out.c5
    have hf4:=HI4.out.f4
    have hf5:=HI4.out.f5
    gi_wp2_with fail
    have q0:=@CellW.h
    have q9:Nonempty (CellW ⟨w.heap.size+1+1,0,none⟩ (.string slo)):=⟨⟨W4,HI4.out.c4⟩⟩
    have q8:Nonempty (CellW ⟨w.heap.size+1+1+1,0,none⟩ (.string shi)):=⟨⟨W4,HI4.out.c5⟩⟩
    refine wpIn_region_readers2 [(8,0),(1,1),(9,3),(1,4),(0,2),(0,5),(0,6),(0,7)]
     [(6,fun w'=>∃ p:CellW ⟨w.heap.size+1+1,0,none⟩ (.string slo),w'=p.w),(7,fun w'=>∃ p:CellW ⟨w.heap.size+1+1+1,0,none⟩ (.string shi),w'=p.w)]
     (by kernel_rfl) (by kernel_rfl) ⟨.inr ⟨⟨{ W4 with drawn:=W4.drawn+1 },HI4.out.c4⟩,rfl⟩,.inr ⟨⟨{ W4 with drawn:=W4.drawn+1 },HI4.out.c5⟩,rfl⟩,trivial⟩ ?_
    refine walkR2_read (s:=6) _ (List.mem_cons_self ..) rfl ?_
    simp only[dz_,tsc_,tz_]
    go_big_quiet_step (fail)
    refine wpQuiet_nil ?_
    refine walkR2_any ?_
    simp only[dsc_,dz_,tsc_,tz_]
    go_big_quiet_step (fail)
    refine wpQuiet_nil ?_
    refine walkR2_read (s:=7) _ (List.mem_cons_of_mem _ (List.mem_cons_self ..)) rfl ?_
    simp only[dsc_,dz_,tsc_,tz_]
    go_big_quiet_step (fail)
    refine wpQuiet_nil ?_
    refine walkR2_any ?_
    simp only[dsc_,dz_,tsc_,tz_]
    go_big_quiet_step (fail)
    refine wpQuiet_nil ?_
    clear q0 q8 q9 hc3 hc4 hc5 hf4 hf5
    obtain⟨V0,hV0⟩:∃ V0:World,{ heap:=W4.heap,tape:=W4.tape,drawn:=W4.drawn+1,os:=W4.os,output:=W4.output }=V0:=⟨_,rfl⟩
    rw[hV0]
    have hdr:Below W4.heap.size W4 V0:=by rw[← hV0];exact⟨rfl,rfl,rfl,Nat.le_refl _,fun _ _=>rfl⟩
    have HJ0:=hd_ (HI4.out.below hdr)
    have HC0:=hd_ (HB4.out.trans (hdr.mono HB4.out.size))
    have Hl0:=hd_ (Hk4.out.trans (hdr.mono Hk4.out.size))
    clear hV0 hdr HI4 HB4 Hk4
    refine walkR2_move ?_
    simp only[dsc_,dz_,tsc_,tz_]
    go_wp2_with fail
    refine cm_ (Ha1.out V0 HC0.out) ?_
    rintro e V1 ⟨rfl,hb⟩
    have HJ1:=hd_ (HJ0.out.below hb)
    have HC1:=hd_ (HC0.out.trans (hb.mono HC0.out.size))
    have Hl1:=hd_ (Hl0.out.trans (hb.mono Hl0.out.size))
    clear hb HJ0 HC0 Hl0 Ha1
    go_wp2_with fail
    refine⟨⟨.inr ⟨⟨V1,HJ1.out.c4⟩,rfl⟩,.inr ⟨⟨V1,HJ1.out.c5⟩,rfl⟩,trivial⟩,?_⟩
    refine walkR2_move ?_
    simp only[dsc_,dz_,tsc_,tz_]
    go_wp2_with fail
    refine cm_ (Ha2.out V1 HC1.out) ?_
    rintro e V2 ⟨rfl,hb⟩
    have HJ2:=hd_ (HJ1.out.below hb)
    have HC2:=hd_ (HC1.out.trans (hb.mono HC1.out.size))
    have Hl2:=hd_ (Hl1.out.trans (hb.mono Hl1.out.size))
    clear hb HJ1 HC1 Hl1 Ha2
    go_wp2_with fail
    refine⟨⟨.inr ⟨⟨V2,HJ2.out.c4⟩,rfl⟩,.inr ⟨⟨V2,HJ2.out.c5⟩,rfl⟩,trivial⟩,?_⟩
    have hc4:=HJ2.out.c4
    have hc5:=HJ2.out.c5
    have hf4:=HJ2.out.f4
    have hf5:=HJ2.out.f5
    refine walkR2_move ?_
    simp only[dsc_,dz_,tsc_,tz_]
    go_wp2_with fail
    have hc52:(V2.setCell ⟨w.heap.size+1+1,0,none⟩ (.string slo2)).cell? ⟨w.heap.size+1+1+1,0,none⟩=some (.string shi):=by
     rw[World.cell?_setCell_other _ _ _ _ (by simp)];exact HJ2.out.c5
    have hf52:(V2.setCell ⟨w.heap.size+1+1,0,none⟩ (.string slo2)).frozen? ⟨w.heap.size+1+1+1,0,none⟩=false:=by rw[World.frozen?_setCell];exact HJ2.out.f5
    refine⟨⟨.inl rfl,.inr ⟨⟨V2.setCell ⟨w.heap.size+1+1,0,none⟩ (.string slo2),hc52⟩,rfl⟩,trivial⟩,?_⟩
    clear hc4 hc5 hf4 hf5
    refine walkR2_move ?_
    simp only[dsc_,dz_,tsc_,tz_]
    go_wp2_with fail
    refine⟨⟨.inl rfl,.inl rfl,trivial⟩,?_⟩
    simp only[walkR2]
    exact⟨(keeps_of_below Hl2.out).trans ((KeepsOthers.setCell _ _ _).trans (KeepsOthers.setCell _ _ _)),ends_kt rfl HB.out HI.out.sz Hl2.out _ _,(HJ2.out.stored _ _).cast Hf1.out Hf2.out,near_below HC2.out _ _⟩
  ·have hH:LN.hiL (lf n) p=lf n p+1:=by unfold LN.hiL;rw[if_neg hp2]
   rw[hH] at Hm2 e1 e2 t2
   have hp2':(p==2)=false:=by rw[beq_eq_false_iff_ne];exact hp2
   clear hH
   rcases hw2 with⟨hs,hk⟩|⟨hs1,hs2,hk⟩
   ·rw[if_pos hk] at e1 e2
    rw[hs] at Hsg
    clear hs
    have Ha1:Hid (∀ W,Below w.heap.size w W→Gives Tryz.prog 20 #[.string (itx (LN.eLo (lf n) (pre.map Subtype.val))),.string (itx (((lf n p+1:Nat):Int)*k))] W (.string (itx ((LN.eLo (lf n) (pre.map Subtype.val))+((lf n p+1:Nat):Int)*k)))):=fun W hW=>addZ W _ _ F hF s1 t2 (HLL.out W hW)
    have Ha2:Hid (∀ W,Below w.heap.size w W→Gives Tryz.prog 20 #[.string (itx (LN.eHi (lf n) (pre.map Subtype.val))),.string (itx ((lf n p:Int)*k))] W (.string (itx ((LN.eHi (lf n) (pre.map Subtype.val))+(lf n p:Int)*k)))):=fun W hW=>addZ W _ _ F hF s2 t1 (HLL.out W hW)
    rw[← e1] at Ha1
    rw[← e2] at Ha2
    clear e1 e2 s1 s2 t1 t2 HLL hlen hpl hF
    obtain⟨slo2,hq1⟩:∃ s,itx (LN.eLo (lf n) ((pre++[(⟨(p,k),hmem⟩:{x // x∈tl})]).map Subtype.val))=s:=⟨_,rfl⟩
    obtain⟨shi2,hq2⟩:∃ s,itx (LN.eHi (lf n) ((pre++[(⟨(p,k),hmem⟩:{x // x∈tl})]).map Subtype.val))=s:=⟨_,rfl⟩
    rw[hq1] at Ha1
    rw[hq2] at Ha2
    have Hf1:=hd_ hq1
    have Hf2:=hd_ hq2
    clear hq1 hq2
    generalize itx (LN.eLo (lf n) (pre.map Subtype.val))=slo at *
    generalize itx (LN.eHi (lf n) (pre.map Subtype.val))=shi at *
    generalize itx k=sk at *
    generalize itx ((lf n p:Int)*k)=sa at *
    generalize itx (((lf n p+1:Nat):Int)*k)=sb at *
    generalize dec (lf n p+1)=sH at *
    generalize dec (lf n p)=sL at *
    gi_wp2_with fail
    refine⟨trivial,?_⟩
    refine(CallsIn.inRound l (callsIn_wide.2 (Hlog.out W0 HB0.out))).mono ?_
    rintro e W1 ⟨rfl,hb⟩
    have HI1:=hd_ (HI0.out.below hb)
    have HB1:=hd_ (HB0.out.trans (hb.mono HB0.out.size))
    have Hk1:=hd_ (Hk0.out.trans (hb.mono Hk0.out.size))
    clear hb hc3 hc4 hc5 hf4 hf5 Hlog HI0 HB0 Hk0
    have hc3:=HI1.out.c3
    have hc4:=HI1.out.c4
    have hc5:=HI1.out.c5
    have hf4:=HI1.out.f4
    have hf5:=HI1.out.f5
    gi_wp2_with fail
    refine⟨trivial,?_⟩
    refine(CallsIn.inRound l (callsIn_wide.2 (Had.out W1 HB1.out))).mono ?_
    rintro e W2 ⟨rfl,hb⟩
    have HI2:=hd_ (HI1.out.below hb)
    have HB2:=hd_ (HB1.out.trans (hb.mono HB1.out.size))
    have Hk2:=hd_ (Hk1.out.trans (hb.mono Hk1.out.size))
    clear hb hc3 hc4 hc5 hf4 hf5 Had HI1 HB1 Hk1
    have hc3:=HI2.out.c3
    have hc4:=HI2.out.c4
    have hc5:=HI2.out.c5
    have hf4:=HI2.out.f4
    have hf5:=HI2.out.f5
    gi_wp2_with fail
    refine⟨trivial,?_⟩
    refine(CallsIn.inRound l (callsIn_wide.2 (Hm1.out W2 HB2.out))).mono ?_
    rintro e W3 ⟨rfl,hb⟩
    have HI3:=hd_ (HI2.out.below hb)
    have HB3:=hd_ (HB2.out.trans (hb.mono HB2.out.size))
    have Hk3:=hd_ (Hk2.out.trans (hb.mono Hk2.out.size))
    clear hb hc3 hc4 hc5 hf4 hf5 Hm1 HI2 HB2 Hk2
    have hc3:=HI3.out.c3
    have hc4:=HI3.out.c4
    have hc5:=HI3.out.c5
    have hf4:=HI3.out.f4
    have hf5:=HI3.out.f5
    gi_wp2_with fail
    refine⟨trivial,?_⟩
    refine(CallsIn.inRound l (callsIn_wide.2 (Hm2.out W3 HB3.out))).mono ?_
    rintro e W4 ⟨rfl,hb⟩
    have HI4:=hd_ (HI3.out.below hb)
    have HB4:=hd_ (HB3.out.trans (hb.mono HB3.out.size))
    have Hk4:=hd_ (Hk3.out.trans (hb.mono Hk3.out.size))
    clear hb hc3 hc4 hc5 hf4 hf5 Hm2 HI3 HB3 Hk3
    have hc3:=HI4.out.c3
    have hc4:=HI4.out.c4
    have hc5:=HI4.out.c5
    have hf4:=HI4.out.f4
    have hf5:=HI4.out.f5
    gi_wp2_with fail
    refine⟨trivial,?_⟩
    refine(CallsIn.inRound l (callsIn_wide.2 (Hsg.out W4 HB4.out))).mono ?_
    rintro e W5 ⟨rfl,hb⟩
    have HI5:=hd_ (HI4.out.below hb)
    have HB5:=hd_ (HB4.out.trans (hb.mono HB4.out.size))
    have Hk5:=hd_ (Hk4.out.trans (hb.mono Hk4.out.size))
    clear hb hc3 hc4 hc5 hf4 hf5 Hsg HI4 HB4 Hk4
    have hc3:=HI5.out.c3
    have hc4:=HI5.out.c4
    have hc5:=HI5.out.c5
    have hf4:=HI5.out.f4
    have hf5:=HI5.out.f5
    gi_wp2_with fail
    have q0:=@CellW.h
    have q9:Nonempty (CellW ⟨w.heap.size+1+1,0,none⟩ (.string slo)):=⟨⟨W5,HI5.out.c4⟩⟩
    have q8:Nonempty (CellW ⟨w.heap.size+1+1+1,0,none⟩ (.string shi)):=⟨⟨W5,HI5.out.c5⟩⟩
    refine wpIn_region_readers2 [(8,0),(1,1),(9,3),(1,4),(0,2),(0,5),(0,6),(0,7)]
     [(6,fun w'=>∃ p:CellW ⟨w.heap.size+1+1,0,none⟩ (.string slo),w'=p.w),(7,fun w'=>∃ p:CellW ⟨w.heap.size+1+1+1,0,none⟩ (.string shi),w'=p.w)]
     (by kernel_rfl) (by kernel_rfl) ⟨.inr ⟨⟨{ W5 with drawn:=W5.drawn+1 },HI5.out.c4⟩,rfl⟩,.inr ⟨⟨{ W5 with drawn:=W5.drawn+1 },HI5.out.c5⟩,rfl⟩,trivial⟩ ?_
    refine walkR2_read (s:=6) _ (List.mem_cons_self ..) rfl ?_
    simp only[dz_,tsc_,tz_]
    go_big_quiet_step (fail)
    refine wpQuiet_nil ?_
    refine walkR2_any ?_
    simp only[dsc_,dz_,tsc_,tz_]
    go_big_quiet_step (fail)
    refine wpQuiet_nil ?_
    refine walkR2_read (s:=7) _ (List.mem_cons_of_mem _ (List.mem_cons_self ..)) rfl ?_
    simp only[dsc_,dz_,tsc_,tz_]
    go_big_quiet_step (fail)
    refine wpQuiet_nil ?_
    refine walkR2_any ?_
    simp only[dsc_,dz_,tsc_,tz_]
    go_big_quiet_step (fail)
    refine wpQuiet_nil ?_
    clear q0 q8 q9 hc3 hc4 hc5 hf4 hf5
    obtain⟨V0,hV0⟩:∃ V0:World,{ heap:=W5.heap,tape:=W5.tape,drawn:=W5.drawn+1,os:=W5.os,output:=W5.output }=V0:=⟨_,rfl⟩
    rw[hV0]
    have hdr:Below W5.heap.size W5 V0:=by rw[← hV0];exact⟨rfl,rfl,rfl,Nat.le_refl _,fun _ _=>rfl⟩
    have HJ0:=hd_ (HI5.out.below hdr)
    have HC0:=hd_ (HB5.out.trans (hdr.mono HB5.out.size))
    have Hl0:=hd_ (Hk5.out.trans (hdr.mono Hk5.out.size))
    clear hV0 hdr HI5 HB5 Hk5
    refine walkR2_move ?_
    simp only[dsc_,dz_,tsc_,tz_]
    go_wp2_with fail
    refine cm_ (Ha1.out V0 HC0.out) ?_
    rintro e V1 ⟨rfl,hb⟩
    have HJ1:=hd_ (HJ0.out.below hb)
    have HC1:=hd_ (HC0.out.trans (hb.mono HC0.out.size))
    have Hl1:=hd_ (Hl0.out.trans (hb.mono Hl0.out.size))
    clear hb HJ0 HC0 Hl0 Ha1
    go_wp2_with fail
    refine⟨⟨.inr ⟨⟨V1,HJ1.out.c4⟩,rfl⟩,.inr ⟨⟨V1,HJ1.out.c5⟩,rfl⟩,trivial⟩,?_⟩
    refine walkR2_move ?_
    simp only[dsc_,dz_,tsc_,tz_]
    go_wp2_with fail
    refine cm_ (Ha2.out V1 HC1.out) ?_
    rintro e V2 ⟨rfl,hb⟩
    have HJ2:=hd_ (HJ1.out.below hb)
    have HC2:=hd_ (HC1.out.trans (hb.mono HC1.out.size))
    have Hl2:=hd_ (Hl1.out.trans (hb.mono Hl1.out.size))
    clear hb HJ1 HC1 Hl1 Ha2
    go_wp2_with fail
    refine⟨⟨.inr ⟨⟨V2,HJ2.out.c4⟩,rfl⟩,.inr ⟨⟨V2,HJ2.out.c5⟩,rfl⟩,trivial⟩,?_⟩
    have hc4:=HJ2.out.c4
    have hc5:=HJ2.out.c5
    have hf4:=HJ2.out.f4
    have hf5:=HJ2.out.f5
    refine walkR2_move ?_
    simp only[dsc_,dz_,tsc_,tz_]
    go_wp2_with fail
    have hc52:(V2.setCell ⟨w.heap.size+1+1,0,none⟩ (.string slo2)).cell? ⟨w.heap.size+1+1+1,0,none⟩=some (.string shi):=by
     rw[World.cell?_setCell_other _ _ _ _ (by simp)];exact HJ2.out.c5
    have hf52:(V2.setCell ⟨w.heap.size+1+1,0,none⟩ (.string slo2)).frozen? ⟨w.heap.size+1+1+1,0,none⟩=false:=by rw[World.frozen?_setCell];exact HJ2.out.f5
    refine⟨⟨.inl rfl,.inr ⟨⟨V2.setCell ⟨w.heap.size+1+1,0,none⟩ (.string slo2),hc52⟩,rfl⟩,trivial⟩,?_⟩
    clear hc4 hc5 hf4 hf5
    refine walkR2_move ?_
    simp only[dsc_,dz_,tsc_,tz_]
    go_wp2_with fail
    refine⟨⟨.inl rfl,.inl rfl,trivial⟩,?_⟩
    simp only[walkR2]
    exact⟨(keeps_of_below Hl2.out).trans ((KeepsOthers.setCell _ _ _).trans (KeepsOthers.setCell _ _ _)),ends_kt rfl HB.out HI.out.sz Hl2.out _ _,(HJ2.out.stored _ _).cast Hf1.out Hf2.out,near_below HC2.out _ _⟩
   ·rw[if_neg hk] at e1 e2
    have hs':¬ k.sign<0:=by omega
    have Ha1:Hid (∀ W,Below w.heap.size w W→Gives Tryz.prog 20 #[.string (itx (LN.eLo (lf n) (pre.map Subtype.val))),.string (itx ((lf n p:Int)*k))] W (.string (itx ((LN.eLo (lf n) (pre.map Subtype.val))+(lf n p:Int)*k)))):=fun W hW=>addZ W _ _ F hF s1 t1 (HLL.out W hW)
    have Ha2:Hid (∀ W,Below w.heap.size w W→Gives Tryz.prog 20 #[.string (itx (LN.eHi (lf n) (pre.map Subtype.val))),.string (itx (((lf n p+1:Nat):Int)*k))] W (.string (itx ((LN.eHi (lf n) (pre.map Subtype.val))+((lf n p+1:Nat):Int)*k)))):=fun W hW=>addZ W _ _ F hF s2 t2 (HLL.out W hW)
    generalize k.sign=sg at *
    rw[← e1] at Ha1
    rw[← e2] at Ha2
    clear e1 e2 s1 s2 t1 t2 HLL hlen hpl hF
    obtain⟨slo2,hq1⟩:∃ s,itx (LN.eLo (lf n) ((pre++[(⟨(p,k),hmem⟩:{x // x∈tl})]).map Subtype.val))=s:=⟨_,rfl⟩
    obtain⟨shi2,hq2⟩:∃ s,itx (LN.eHi (lf n) ((pre++[(⟨(p,k),hmem⟩:{x // x∈tl})]).map Subtype.val))=s:=⟨_,rfl⟩
    rw[hq1] at Ha1
    rw[hq2] at Ha2
    have Hf1:=hd_ hq1
    have Hf2:=hd_ hq2
    clear hq1 hq2
    generalize itx (LN.eLo (lf n) (pre.map Subtype.val))=slo at *
    generalize itx (LN.eHi (lf n) (pre.map Subtype.val))=shi at *
    generalize itx k=sk at *
    generalize itx ((lf n p:Int)*k)=sa at *
    generalize itx (((lf n p+1:Nat):Int)*k)=sb at *
    generalize dec (lf n p+1)=sH at *
    generalize dec (lf n p)=sL at *
    gi_wp2_with fail
    refine⟨trivial,?_⟩
    refine(CallsIn.inRound l (callsIn_wide.2 (Hlog.out W0 HB0.out))).mono ?_
    rintro e W1 ⟨rfl,hb⟩
    have HI1:=hd_ (HI0.out.below hb)
    have HB1:=hd_ (HB0.out.trans (hb.mono HB0.out.size))
    have Hk1:=hd_ (Hk0.out.trans (hb.mono Hk0.out.size))
    clear hb hc3 hc4 hc5 hf4 hf5 Hlog HI0 HB0 Hk0
    have hc3:=HI1.out.c3
    have hc4:=HI1.out.c4
    have hc5:=HI1.out.c5
    have hf4:=HI1.out.f4
    have hf5:=HI1.out.f5
    gi_wp2_with fail
    refine⟨trivial,?_⟩
    refine(CallsIn.inRound l (callsIn_wide.2 (Had.out W1 HB1.out))).mono ?_
    rintro e W2 ⟨rfl,hb⟩
    have HI2:=hd_ (HI1.out.below hb)
    have HB2:=hd_ (HB1.out.trans (hb.mono HB1.out.size))
    have Hk2:=hd_ (Hk1.out.trans (hb.mono Hk1.out.size))
    clear hb hc3 hc4 hc5 hf4 hf5 Had HI1 HB1 Hk1
    have hc3:=HI2.out.c3
    have hc4:=HI2.out.c4
    have hc5:=HI2.out.c5
    have hf4:=HI2.out.f4
    have hf5:=HI2.out.f5
    gi_wp2_with fail
    refine⟨trivial,?_⟩
    refine(CallsIn.inRound l (callsIn_wide.2 (Hm1.out W2 HB2.out))).mono ?_
    rintro e W3 ⟨rfl,hb⟩
    have HI3:=hd_ (HI2.out.below hb)
    have HB3:=hd_ (HB2.out.trans (hb.mono HB2.out.size))
    have Hk3:=hd_ (Hk2.out.trans (hb.mono Hk2.out.size))
    clear hb hc3 hc4 hc5 hf4 hf5 Hm1 HI2 HB2 Hk2
    have hc3:=HI3.out.c3
    have hc4:=HI3.out.c4
    have hc5:=HI3.out.c5
    have hf4:=HI3.out.f4
    have hf5:=HI3.out.f5
    gi_wp2_with fail
    refine⟨trivial,?_⟩
    refine(CallsIn.inRound l (callsIn_wide.2 (Hm2.out W3 HB3.out))).mono ?_
    rintro e W4 ⟨rfl,hb⟩
    have HI4:=hd_ (HI3.out.below hb)
    have HB4:=hd_ (HB3.out.trans (hb.mono HB3.out.size))
    have Hk4:=hd_ (Hk3.out.trans (hb.mono Hk3.out.size))
    clear hb hc3 hc4 hc5 hf4 hf5 Hm2 HI3 HB3 Hk3
    have hc3:=HI4.out.c3
    have hc4:=HI4.out.c4
    have hc5:=HI4.out.c5
    have hf4:=HI4.out.f4
    have hf5:=HI4.out.f5
    gi_wp2_with fail
    refine⟨trivial,?_⟩
    refine(CallsIn.inRound l (callsIn_wide.2 (Hsg.out W4 HB4.out))).mono ?_
    rintro e W5 ⟨rfl,hb⟩
    have HI5:=hd_ (HI4.out.below hb)
    have HB5:=hd_ (HB4.out.trans (hb.mono HB4.out.size))
    have Hk5:=hd_ (Hk4.out.trans (hb.mono Hk4.out.size))
    clear hb hc3 hc4 hc5 hf4 hf5 Hsg HI4 HB4 Hk4
    have hc3:=HI5.out.c3
    have hc4:=HI5.out.c4
    have hc5:=HI5.out.c5
    have hf4:=HI5.out.f4
    have hf5:=HI5.out.f5
    gi_wp2_with fail
    have q0:=@CellW.h
    have q9:Nonempty (CellW ⟨w.heap.size+1+1,0,none⟩ (.string slo)):=⟨⟨W5,HI5.out.c4⟩⟩
    have q8:Nonempty (CellW ⟨w.heap.size+1+1+1,0,none⟩ (.string shi)):=⟨⟨W5,HI5.out.c5⟩⟩
    refine wpIn_region_readers2 [(8,0),(1,1),(9,3),(1,4),(0,2),(0,5),(0,6),(0,7)]
     [(6,fun w'=>∃ p:CellW ⟨w.heap.size+1+1,0,none⟩ (.string slo),w'=p.w),(7,fun w'=>∃ p:CellW ⟨w.heap.size+1+1+1,0,none⟩ (.string shi),w'=p.w)]
     (by kernel_rfl) (by kernel_rfl) ⟨.inr ⟨⟨{ W5 with drawn:=W5.drawn+1 },HI5.out.c4⟩,rfl⟩,.inr ⟨⟨{ W5 with drawn:=W5.drawn+1 },HI5.out.c5⟩,rfl⟩,trivial⟩ ?_
    refine walkR2_read (s:=6) _ (List.mem_cons_self ..) rfl ?_
    simp only[dz_,tsc_,tz_]
    go_big_quiet_step (fail)
    refine wpQuiet_nil ?_
    refine walkR2_any ?_
    simp only[dsc_,dz_,tsc_,tz_]
    go_big_quiet_step (fail)
    refine wpQuiet_nil ?_
    refine walkR2_read (s:=7) _ (List.mem_cons_of_mem _ (List.mem_cons_self ..)) rfl ?_
    simp only[dsc_,dz_,tsc_,tz_]
    go_big_quiet_step (fail)
    refine wpQuiet_nil ?_
    refine walkR2_any ?_
    simp only[dsc_,dz_,tsc_,tz_]
    go_big_quiet_step (fail)
    refine wpQuiet_nil ?_
    clear q0 q8 q9 hc3 hc4 hc5 hf4 hf5
    obtain⟨V0,hV0⟩:∃ V0:World,{ heap:=W5.heap,tape:=W5.tape,drawn:=W5.drawn+1,os:=W5.os,output:=W5.output }=V0:=⟨_,rfl⟩
    rw[hV0]
    have hdr:Below W5.heap.size W5 V0:=by rw[← hV0];exact⟨rfl,rfl,rfl,Nat.le_refl _,fun _ _=>rfl⟩
    have HJ0:=hd_ (HI5.out.below hdr)
    have HC0:=hd_ (HB5.out.trans (hdr.mono HB5.out.size))
    have Hl0:=hd_ (Hk5.out.trans (hdr.mono Hk5.out.size))
    clear hV0 hdr HI5 HB5 Hk5
    refine walkR2_move ?_
    simp only[dsc_,dz_,tsc_,tz_]
    go_wp2_with fail
    refine cm_ (Ha1.out V0 HC0.out) ?_
    rintro e V1 ⟨rfl,hb⟩
    have HJ1:=hd_ (HJ0.out.below hb)
    have HC1:=hd_ (HC0.out.trans (hb.mono HC0.out.size))
    have Hl1:=hd_ (Hl0.out.trans (hb.mono Hl0.out.size))
    clear hb HJ0 HC0 Hl0 Ha1
    go_wp2_with fail
    refine⟨⟨.inr ⟨⟨V1,HJ1.out.c4⟩,rfl⟩,.inr ⟨⟨V1,HJ1.out.c5⟩,rfl⟩,trivial⟩,?_⟩
    refine walkR2_move ?_
    simp only[dsc_,dz_,tsc_,tz_]
    go_wp2_with fail
    refine cm_ (Ha2.out V1 HC1.out) ?_
    rintro e V2 ⟨rfl,hb⟩
    have HJ2:=hd_ (HJ1.out.below hb)
    have HC2:=hd_ (HC1.out.trans (hb.mono HC1.out.size))
    have Hl2:=hd_ (Hl1.out.trans (hb.mono Hl1.out.size))
    clear hb HJ1 HC1 Hl1 Ha2
    go_wp2_with fail
    refine⟨⟨.inr ⟨⟨V2,HJ2.out.c4⟩,rfl⟩,.inr ⟨⟨V2,HJ2.out.c5⟩,rfl⟩,trivial⟩,?_⟩
    have hc4:=HJ2.out.c4
    have hc5:=HJ2.out.c5
    have hf4:=HJ2.out.f4
    have hf5:=HJ2.out.f5
    refine walkR2_move ?_
    simp only[dsc_,dz_,tsc_,tz_]
    go_wp2_with fail
    have hc52:(V2.setCell ⟨w.heap.size+1+1,0,none⟩ (.string slo2)).cell? ⟨w.heap.size+1+1+1,0,none⟩=some (.string shi):=by
     rw[World.cell?_setCell_other _ _ _ _ (by simp)];exact HJ2.out.c5
    have hf52:(V2.setCell ⟨w.heap.size+1+1,0,none⟩ (.string slo2)).frozen? ⟨w.heap.size+1+1+1,0,none⟩=false:=by rw[World.frozen?_setCell];exact HJ2.out.f5
    refine⟨⟨.inl rfl,.inr ⟨⟨V2.setCell ⟨w.heap.size+1+1,0,none⟩ (.string slo2),hc52⟩,rfl⟩,trivial⟩,?_⟩
    clear hc4 hc5 hf4 hf5
    refine walkR2_move ?_
    simp only[dsc_,dz_,tsc_,tz_]
    go_wp2_with fail
    refine⟨⟨.inl rfl,.inl rfl,trivial⟩,?_⟩
    simp only[walkR2]
    exact⟨(keeps_of_below Hl2.out).trans ((KeepsOthers.setCell _ _ _).trans (KeepsOthers.setCell _ _ _)),ends_kt rfl HB.out HI.out.sz Hl2.out _ _,(HJ2.out.stored _ _).cast Hf1.out Hf2.out,near_below HC2.out _ _⟩
 case done =>
  rintro D' ys W hD rfl ⟨hI,hB⟩ hK
  rw[List.attach_map_subtype_val] at hI
  have HI:=hd_ hI
  have HB:=hd_ hB
  have HK:=hd_ hK
  clear hI hB hK hr1 hr2 hI1 hB1 hB5
  have Hv:Hid (∀ s t,itx (LN.eLo (lf n) tl)=s→itx (LN.eHi (lf n) tl)=t→Ending.returned (.tuple #[.string s,.string t])=Ending.returned (.tuple #[.string (itx (LN.eLo (lf n) tl)),.string (itx (LN.eHi (lf n) tl))])):=by
   intro s t h1 h2
   rw[h1,h2]
  obtain⟨lo,hlo⟩:∃ s,itx (LN.eLo (lf n) tl)=s:=⟨_,rfl⟩
  obtain⟨hi,hhi⟩:∃ s,itx (LN.eHi (lf n) tl)=s:=⟨_,rfl⟩
  have Hr:=hd_ (Hv.out lo hi hlo hhi)
  rw[hlo,hhi] at HI
  clear Hv hlo hhi
  have hc4:=HI.out.c4
  have hc5:=HI.out.c5
  have hf4:=HI.out.f4
  have hf5:=HI.out.f5
  gi_wp2_with fail
  gi_region
  gi_wp2
  clear hc4 hc5 hf4 hf5
  have e4:((W.setCell { block:=w.heap.size+1+1,off:=0 } (Value.string lo)).setCell { block:=w.heap.size+1+1+1,off:=0 } (Value.string hi)).drew.cell? ⟨w.heap.size+1+1,0,none⟩=some (.string lo):=by
   show World.cell? ((W.setCell { block:=w.heap.size+1+1,off:=0 } (Value.string lo)).setCell { block:=w.heap.size+1+1+1,off:=0 } (Value.string hi)) _=_
   rw[World.cell?_setCell_other _ _ _ _ (by simp),World.cell?_setCell_same _ _ _ HI.out.c4]
  have e5:((W.setCell { block:=w.heap.size+1+1,off:=0 } (Value.string lo)).setCell { block:=w.heap.size+1+1+1,off:=0 } (Value.string hi)).drew.cell? ⟨w.heap.size+1+1+1,0,none⟩=some (.string hi):=by
   show World.cell? ((W.setCell { block:=w.heap.size+1+1,off:=0 } (Value.string lo)).setCell { block:=w.heap.size+1+1+1,off:=0 } (Value.string hi)) _=_
   rw[World.cell?_setCell_same _ _ _ (by rw[World.cell?_setCell_other _ _ _ _ (by simp)];exact HI.out.c5)]
  have hk9:=((KeepsOthers.setCell W ⟨w.heap.size+1+1,0,none⟩ (.string lo)).trans (KeepsOthers.setCell _ ⟨w.heap.size+1+1+1,0,none⟩ (.string hi))).trans (KeepsOthers.drew _)
  have hK9:=hk9.same D' _ HK.out rfl
  have hb9:=((HB.out.setCell (p:=⟨w.heap.size+1+1,0,none⟩) (by show _≤w.heap.size+1+1;omega) (.string lo)).setCell (p:=⟨w.heap.size+1+1+1,0,none⟩) (by show _≤w.heap.size+1+1+1;omega) (.string hi)).drew
  generalize ((W.setCell { block:=w.heap.size+1+1,off:=0 } (Value.string lo)).setCell { block:=w.heap.size+1+1+1,off:=0 } (Value.string hi)).drew=w9 at *
  have g4:=cell_kept e4 (grownBy_putObj' _ D' (.deferred none)) (fun r e=>by cases e;exact⟨_,hK9,rfl⟩)
  have g5:=cell_kept e5 (grownBy_putObj' _ D' (.deferred none)) (fun r e=>by cases e;exact⟨_,hK9,rfl⟩)
  refine⟨by simp,.inl ⟨_,_,rfl,run_takeDeferred hK9,?_⟩⟩
  refine⟨.tuple #[.string lo,.string hi],?_,Hr.out,hb9.trans (belowK_b (w:=w) nr_ w9 D' _ _ (by rw[hsz1] at hD;omega) hK9 rfl rfl)⟩
  simp[results,Tryz.results172,go_sem,g4,g5]
 case stop =>
  rintro D' c pre W hD hSp ⟨hf,_⟩ hK
  exact hf.elim
end Go.Proofs.YtnjedhgcfeoemaaGreatDoor

namespace Go.Proofs.YtnjedhgcfeoemaaGreatDoor.LN
def subQ (q:Int) (la lb:List Rat):List Rat:=List.zipWith (fun a b=>a+(-(q:Rat))*b) la lb
def FloorOf (ps:List Int) (la lb:List Rat) (q:Int):Prop:=0≤sz ps (subQ q la lb)*sz ps lb∧sz ps (subQ (q+1) la lb)*sz ps lb<0
theorem sz_of_vt{ps:List Int}{l:List Rat}(hp:∀ p∈ps,0<p):sz ps l=sg (vt (tlist (tden l) ps l)):=signT_sg _ (tlist_pos hp)
end Go.Proofs.YtnjedhgcfeoemaaGreatDoor.LN

namespace Go.Proofs.YtnjedhgcfeoemaaGreatDoor
open Go.RowKit
theorem lf_at{n:Nat}{tl:List (Int×Int)}(h:PrT tl)(hn:n≤1056):∀ x∈tl,LN.LogAt n x.1 (lf n x.1):=fun x hx=>by
 obtain⟨q,e,hq⟩:=h x hx
 rw[e]
 exact lgN_at hq hn
structure TrT (tl:List (Int×Int)):Prop where
 p:PrT tl
 nz:∀ x∈tl,x.2≠0
 nd:(tl.map Prod.fst).Nodup
theorem sign_of_lo{n:Nat}{tl:List (Int×Int)}(h:TrT tl)(hn:n≤1056)(hne:tl≠[])(h0:0≤LN.eLo (lf n) tl):LN.signT tl=1:=by
 rw[LN.eLo_eq] at h0
 exact LN.sign_low n (lf n) tl (lf_at h.p hn) h.nz hne h.nd (by omega)
theorem sign_of_hi{n:Nat}{tl:List (Int×Int)}(h:TrT tl)(hn:n≤1056)(hne:tl≠[])(h0:LN.eHi (lf n) tl≤0):LN.signT tl = -1:=by
 rw[LN.eHi_eq] at h0
 exact LN.sign_high n (lf n) tl (lf_at h.p hn) h.nz hne h.nd (by omega)
theorem isLg_two(N:Nat):IsLg 2 N N:=⟨Nat.le_refl _,Nat.pow_lt_pow_right (by decide) (by omega)⟩
theorem digs_two(more n:Nat)(hm:1≤more){s:Nat×Nat×Nat}(h:digs 2 more n=some s):s.2.2=2^n :=
 isLg_one (digs_inv 2 more (by decide) hm n s h).lg (isLg_two _)
theorem lgA_lf{p:Int}(hp:∃ q:Nat,p=q∧(q=2∨q∈oddP))(h:(digs p.toNat 62 26).isSome=true):lgA p=(lf 26 p:Int)∧lgB p=(LN.hiL (lf 26) p:Int):=by
 obtain⟨q,rfl,hq⟩:=hp
 obtain⟨s,hs⟩:=Option.isSome_iff_exists.1 h
 rw[Int.toNat_natCast] at hs
 have e:lgA q=(lf 26 q:Int):=by
  unfold lgA
  rw[Int.toNat_natCast,hs]
  show ((s.2.2:Nat):Int)=((lgN q 26:Nat):Int)
  rcases hq with rfl|hq
  ·rw[digs_two 62 26 (by decide) hs]
   rw[show ((2:Nat):Int)=2 from rfl,lgN_two]
  ·rw[digs_lgN hq (by decide) (by decide) hs]
 refine⟨e,?_⟩
 unfold lgB LN.hiL
 rw[e]
 split
 ·rfl
 ·rfl
def Dec (tl:List (Int×Int)):Prop:=0≤LN.eLo (lf 1024) tl∨LN.eHi (lf 1024) tl≤0
def smallP:List Int:=[2,3,5,7,11,13]
theorem lg_lgN{p n L:Nat}(hp:p∈oddP)(hn:n≤1056)(h:LN.lg p p.log2 n 1120=some L):lgN p n=L:=by
 rw[lg_digs] at h
 obtain⟨s,hs,e⟩:=Option.map_eq_some_iff.1 h
 rw[← digs_lgN hp hn (by decide) hs,e]
theorem lg_cert:([3,5,7,11,13]:List Nat).map (fun p=>LN.lg p p.log2 1024 1120)=LN.certL.tail.map fun x=>some x.toNat:=by decide +kernel
theorem certL_head:LN.certL.head?=some (2^1024):=by decide +kernel
theorem certL_pos:∀ x∈LN.certL,(0:Int)≤x:=by decide +kernel
theorem lf_two(n:Nat):((lf n 2:Nat):Int)=2^n:=by
 show ((lgN 2 n:Nat):Int)=_
 rw[lgN_two,Int.natCast_pow];rfl
theorem mul_pow_le{a k m:Nat}(ha:a≤100)(h:7+k≤m):a*2^k≤2^m:=by
 have:a*2^k≤2^7*2^k:=Nat.mul_le_mul_right _ (by omega)
 rw[← Nat.pow_add] at this
 exact Nat.le_trans this (Nat.pow_le_pow_right (by decide) h)
theorem certL_eq:smallP.map (fun p=>((lf 1024 p:Nat):Int))=LN.certL:=by
 have h:=lg_cert
 have h0:=certL_head
 have hp:=certL_pos
 obtain⟨c0,c1,c2,c3,c4,c5,e⟩:∃ c0 c1 c2 c3 c4 c5,LN.certL=[c0,c1,c2,c3,c4,c5]:=⟨_,_,_,_,_,_,rfl⟩
 rw[e] at h h0 hp ⊢
 have key:∀ (p:Nat) (c:Int),p∈oddP→0≤c→LN.lg p p.log2 1024 1120=some c.toNat→((lf 1024 (p:Int):Nat):Int)=c:=fun p c hp h0 h=>by
  have:=lg_lgN hp (by decide) h
  show ((lgN p 1024:Nat):Int)=c
  rw[this];omega
 simp only[List.map_cons,List.map_nil,List.tail_cons,List.cons.injEq,and_true] at h
 obtain⟨h1,h2,h3,h4,h5⟩:=h
 simp only[List.head?_cons,Option.some.injEq] at h0
 have p1:=hp c1 (by simp)
 have p2:=hp c2 (by simp)
 have p3:=hp c3 (by simp)
 have p4:=hp c4 (by simp)
 have p5:=hp c5 (by simp)
 have k1:=key 3 c1 (by decide) p1 h1
 have k2:=key 5 c2 (by decide) p2 h2
 have k3:=key 7 c3 (by decide) p3 h3
 have k4:=key 11 c4 (by decide) p4 h4
 have k5:=key 13 c5 (by decide) p5 h5
 have k0:((lf 1024 2:Nat):Int)=c0:=by
  rw[h0]
  exact lf_two 1024
 show [((lf 1024 2:Nat):Int),((lf 1024 3:Nat):Int),((lf 1024 5:Nat):Int),((lf 1024 7:Nat):Int),((lf 1024 11:Nat):Int),((lf 1024 13:Nat):Int)]=_
 rw[k0]
 rw[show ((lf 1024 3:Nat):Int)=c1 from k1,show ((lf 1024 5:Nat):Int)=c2 from k2,show ((lf 1024 7:Nat):Int)=c3 from k3,show ((lf 1024 11:Nat):Int)=c4 from k4,show ((lf 1024 13:Nat):Int)=c5 from k5]
def Kb:Nat:=2^100
theorem dec_of_cert{tl:List (Int×Int)}(h1:∀ x∈tl,x.1∈smallP)(h0:∀ x∈tl,x.2≠0)(hd:(tl.map Prod.fst).Nodup)(hk:∀ x∈tl,x.2.natAbs≤Kb)(hl:tl.length≤100)(hne:tl≠[]):Dec tl:=by
 have hc:=LN.cert_ok
 rw[← certL_eq] at hc
 have hS:=@mul_pow_le tl.length 100 503 hl (by decide)
 have:=LN.ends_decide hc (by decide) tl hS hne (fun x hx=>⟨h1 x hx,h0 x hx,hk x hx⟩) hd
 unfold Dec
 rw[LN.eLo_eq,LN.eHi_eq]
 omega
def allP:List Int:=[2,3,5,7,11,13,17,19,23,29,31,37,41,43,47,53,59,61,67,71,73,79,83,89,97]
structure Good (ps:List Int) (l:List Rat):Prop where
 pr:∀ p∈ps,p∈allP
 nd:ps.Nodup
 kb:∀ x∈tlQ ps l,x.2.natAbs≤Kb
 dc:ps.length≤100→tlQ ps l≠[]→Dec (tlQ ps l)
theorem tlist_fst(D:Nat):∀ (ps:List Int) (l:List Rat),((tlist D ps l).map Prod.fst).Sublist ps
 | [],_=>by simp[tlist]
 | _::_,[]=>by simp[tlist]
 | p::ps,q::l=>by
  have ih:=tlist_fst D ps l
  unfold tlist at ih ⊢
  rw[List.zip_cons_cons,List.filterMap_cons]
  by_cases h:q.num=0
  ·simp only[h,if_true];exact ih.cons _
  ·simp only[h,if_false];exact ih.cons_cons _
theorem tlQ_nz{ps:List Int}{l:List Rat}{x:Int×Int}(h:x∈tlQ ps l):x.2≠0:=by
 obtain⟨_,q,hq,hn,he⟩:=tlist_mem h
 rw[he]
 refine Int.mul_ne_zero hn ?_
 have h1:=LN.tden_dvd hq
 have h2:=LN.tden_pos' l
 have h3:0<tden l/q.den:=Nat.div_pos (Nat.le_of_dvd h2 h1) q.den_pos
 omega
theorem allP_odd:allP=2::oddP.map (fun p=>((p:Nat):Int)):=by decide +kernel
theorem allP_pr{p:Int}(h:p∈allP):∃ q:Nat,p=q∧(q=2∨q∈oddP):=by
 rw[allP_odd] at h
 rcases List.mem_cons.1 h with rfl|h
 ·exact⟨2,rfl,.inl rfl⟩
 ·obtain⟨q,hq,rfl⟩:=List.mem_map.1 h
  exact⟨q,rfl,.inr hq⟩
theorem small_all{p:Int}(h:p∈smallP):p∈allP:=by
 have:∀ p∈smallP,p∈allP:=by decide
 exact this p h
theorem trt_of{ps:List Int}{l:List Rat}(h1:∀ p∈ps,p∈allP)(h2:ps.Nodup):TrT (tlQ ps l) :=
 ⟨fun _ hx=>allP_pr (h1 _ (tlist_mem hx).1),fun _ hx=>tlQ_nz hx,(tlist_fst _ ps l).nodup h2⟩
theorem Good.trt{ps:List Int}{l:List Rat}(h:Good ps l):TrT (tlQ ps l):=trt_of h.pr h.nd
theorem Good.lt{ps:List Int}{l:List Rat}(h:Good ps l):∀ x∈tlQ ps l,x.2.natAbs<2^101:=fun x hx=>Nat.lt_of_le_of_lt (h.kb x hx) (by decide)
theorem Good.dec{ps:List Int}{l:List Rat}(h:Good ps l)(hn:ps.length≤100)(hne:tlQ ps l≠[]):Dec (tlQ ps l):=h.dc hn hne
theorem tlQ_len100{ps:List Int}{l:List Rat}(hn:ps.length≤100):(tlQ ps l).length≤100 :=
 Nat.le_trans (by have:=(tlist_fst (tden l) ps l).length_le;rw[List.length_map] at this;exact this) hn
theorem Good.small{ps:List Int}{l:List Rat}(h1:∀ p∈ps,p∈smallP)(h2:ps.Nodup)(hk:∀ x∈tlQ ps l,x.2.natAbs≤Kb):Good ps l :=
 ⟨fun p hp=>small_all (h1 p hp),h2,hk,fun hn hne=>dec_of_cert (fun _ hx=>h1 _ (tlist_mem hx).1) (trt_of (fun p hp=>small_all (h1 p hp)) h2).nz (trt_of (fun p hp=>small_all (h1 p hp)) h2).nd hk (tlQ_len100 hn) hne⟩
end Go.Proofs.YtnjedhgcfeoemaaGreatDoor

namespace Go.Proofs.YtnjedhgcfeoemaaGreatDoor.LN
theorem dotI_parts(P:Int):∀ l k:List Int,dotI l k=dotI (l.map fun x=>x%P) k+P*dotI (l.map fun x=>x/P) k
 | [],_=>by simp[dotI]
 | _::_,[]=>by simp[dotI]
 | x::l,y::k=>by
  have ih:=dotI_parts P l k
  simp only[List.map_cons,dotI]
  rw[ih]
  have hx:=Int.emod_add_mul_ediv x P
  generalize x%P=r at *
  generalize x/P=q at *
  subst hx
  grind
def approx (a q:Int) (L:List Int):List Int:=L.map fun l=>(2*q*l+a)/(2*a)
theorem approx_length(a q:Int)(L:List Int):(approx a q L).length=L.length:=by simp[approx]
def errA (a q:Int) (L:List Int):Nat:=sumAbs (comb a (approx a q L) q L)
def nearA (a:Int) (L Q:List Int) (K S:Nat):Bool:=decide (0<a)&&Q.all fun q=>decide (errA a q L*K+q.natAbs*S<a.natAbs)
def indA (a:Int) (L Q:List Int) (V:List (List Int)) (P:Int):Bool :=
 decide (1<P)&&decide (V.length=L.length) &&
 (List.range L.length).all fun i=>decide ((combs L.length (V.getD i []) (Q.map fun q=>approx a q L)).map (fun x=>x%P)=unitRow L.length i 1)
theorem dotI_mul(P:Int):∀ u k:List Int,dotI u (k.map fun x=>P*x)=P*dotI u k
 | [],_=>by simp[dotI]
 | _::_,[]=>by simp[dotI]
 | a::u,b::k=>by
  simp only[List.map_cons,dotI]
  rw[dotI_mul P u k]
  grind
theorem ind_dvd{P:Int}{m:Nat}{U V:List (List Int)}(hU:∀ u∈U,u.length=m)(hI:∀ i,i<m→(combs m (V.getD i []) U).map (fun x=>x%P)=unitRow m i 1)(k:List Int)(hk:k.length=m)(h0:∀ u∈U,dotI u k=0):
  ∀ x∈k,∃ y,x=P*y:=by
 intro x hx
 obtain⟨i,hi,rfl⟩:=List.mem_iff_getElem.1 hx
 have h1:=hI i (by omega)
 have h2:=dotI_combs m k (V.getD i []) U hU h0
 rw[dotI_parts P,h1,unitRow,List.range_eq_range',dotI_unit 1 _ i 0 k,if_pos (by omega)] at h2
 rw[Nat.sub_zero,List.getD_eq_getElem?_getD,List.getElem?_eq_getElem hi,Option.getD_some,Int.one_mul] at h2
 generalize k[i]=y at *
 generalize dotI ((combs m (V.getD i []) U).map fun x=>x/P) k=q at *
 exact⟨-q,by rw[Int.mul_neg];omega⟩
theorem ind_zero{P:Int}(hP:1<P){m:Nat}{U V:List (List Int)}(hU:∀ u∈U,u.length=m)(hI:∀ i,i<m→(combs m (V.getD i []) U).map (fun x=>x%P)=unitRow m i 1):
  ∀ (n:Nat) (k:List Int),(∀ x∈k,x.natAbs≤n)→k.length=m→(∀ u∈U,dotI u k=0)→∀ x∈k,x=0:=by
 intro n
 induction n using Nat.strongRecOn with
 | ind n ih =>
  intro k hn hk h0
  by_cases hz:n=0
  ·subst hz
   intro x hx
   have:=hn x hx
   omega
  have hd:=ind_dvd hU hI k hk h0
  have e:k=(k.map fun x=>x/P).map fun x=>P*x:=by
   rw[List.map_map]
   refine List.ext_getElem (by simp) fun i h1 h2=>?_
   obtain⟨y,hy⟩:=hd k[i] (List.getElem_mem h1)
   rw[List.getElem_map,Function.comp_apply,hy,Int.mul_ediv_cancel_left _ (by omega)]
  have h2:∀ u∈U,dotI u (k.map fun x=>x/P)=0:=fun u hu=>by
   have h:=h0 u hu
   rw[e,dotI_mul] at h
   rcases Int.mul_eq_zero.1 h with h|h
   ·omega
   ·exact h
  have h3:∀ x∈k.map (fun x=>x/P),x.natAbs≤n/2:=fun x hx=>by
   obtain⟨z,hz1,rfl⟩:=List.mem_map.1 hx
   obtain⟨y,hy⟩:=hd z hz1
   have h4:=hn z hz1
   rw[hy,Int.mul_ediv_cancel_left _ (by omega)]
   rw[hy,Int.natAbs_mul] at h4
   have h5:2*y.natAbs≤P.natAbs*y.natAbs:=Nat.mul_le_mul_right _ (by omega)
   omega
  have h4:=ih (n/2) (by omega) _ h3 (by rw[List.length_map];exact hk) h2
  intro x hx
  obtain⟨y,hy⟩:=hd x hx
  have h5:=h4 (x/P) (List.mem_map_of_mem hx)
  rw[hy,Int.mul_ediv_cancel_left _ (by omega)] at h5
  rw[hy,h5,Int.mul_zero]
theorem approx_zero{a:Int}{L Q:List Int}{V:List (List Int)}{P:Int}{K S:Nat}(hn:nearA a L Q K S=true)(hi:indA a L Q V P=true)(k:List Int)(hk:k.length=L.length)(hK:∀ x∈k,x.natAbs≤K)(hS:(dotI L k).natAbs<S):
  ∀ x∈k,x=0:=by
 unfold nearA at hn
 unfold indA at hi
 simp only[Bool.and_eq_true,decide_eq_true_eq,List.all_eq_true,List.mem_range] at hn hi
 obtain⟨ha,hQ⟩:=hn
 obtain⟨⟨hP,hV⟩,hI⟩:=hi
 refine ind_zero hP (m:=L.length) (U:=Q.map fun q=>approx a q L) (V:=V) (fun u hu=>?_) hI (sumAbs k) k (fun x hx=>?_) hk fun u hu=>?_
 ·obtain⟨q,_,rfl⟩:=List.mem_map.1 hu
  exact approx_length a q L
 ·clear hS hK hk hI hV
  unfold sumAbs
  induction k with
  | nil=>cases hx
  | cons y l ih =>
   rw[List.map_cons,List.sum_cons]
   rcases List.mem_cons.1 hx with rfl|hx
   ·omega
   ·have:=ih hx;omega
 ·obtain⟨q,hq,rfl⟩:=List.mem_map.1 hu
  have h1:=hQ q hq
  have e:=dotI_comb a q (approx a q L) L k (approx_length a q L)
  have b:=dotI_le K (comb a (approx a q L) q L) k hK
  unfold errA at h1
  generalize dotI (approx a q L) k=f at *
  generalize dotI L k=T at *
  generalize sumAbs (comb a (approx a q L) q L)*K=A at *
  rw[e] at b
  have h3:(a*f).natAbs≤(a*f-q*T).natAbs+(q*T).natAbs:=by omega
  rw[Int.natAbs_mul,Int.natAbs_mul q T] at h3
  have h5:q.natAbs*T.natAbs≤q.natAbs*S:=Nat.mul_le_mul_left _ (by omega)
  have h6:a.natAbs*f.natAbs<a.natAbs*1:=by omega
  have h7:f.natAbs<1:=Nat.lt_of_mul_lt_mul_left h6
  omega
def certP25:List Nat:=[2,3,5,7,11,13,17,19,23,29,31,37,41,43,47,53,59,61,67,71,73,79,83,89,97]
def certL25:List Int:=certP25.map fun p=>if p=2 then 2^1024 else (((lg p p.log2 1024 1120).getD 0:Nat):Int)
def certQ25:List Int:=[-0x390cc4547b4cd34f887aebaadaaef6c9e2c25ec48d8f23b26f2a85d828ff28e8bf9ca1f7cfab0d284288c4b575780f820db978a62a9677ad80c583c592139,-0x260814ef7f5ac50a6006d98cfd70b43cacbe2b44c5a6acba00c9e36e133dfaec54ded4a6dbf2b1ee3d9f0170e9040519515ec50467e78cea24b2a987b6ebe,0xc1fe29faf3a552cd8de28a12e2da45a09a6f6ddd51c9fdf123231365c26467b7f0adb74fd1629cde5109fd2ce82ac31cf6a7159b88cbc009f06beb2efe7f1,0xc4d95d3690e9b65f02a176c883e8ec48cac8f51c6e6ac88155fbb552a8d107e0735dfadeafbd00dc15d7affcd74d1aedcc8b5819242d9f5374d744f37864b,0x2fbe3f25a3a7de9b5b481954d1f6339b2cd20553ab9d3ebec152b19718dccca849fa91bd57f1ef5cf6b3fd1de44fed74095a607713b59e5dab526a5bf2d1a,0xb1d4a89456513f0be0db174271d748684707ab7c465b9b152f9cfd46885d014b0b6313fdb7fb0ac0f8c0cbb84fa1114a2fc1ad81d7b46dc68888c7e484443,0xd4fb67b9eee711061c2f484eaeb6714b80931bf0be34de2758afdcfc8ab8d81f286fc368a34abbdee16567d53c8e00633cd4e3c89dc0919dbd4e6776a43bb,0xc899fb23e590a24b56a2adcd8da665a66ae2ec7e27986cc365cb27f6d6036be68c300e821eb425ea7f34efe116edeeffcaca2af99a0269f5b4261db47c314,-0x11d12dd471b033d8f64d3dd96ce360413127b1e913f3ae0a69f58fd7c784be2b7f4730a1aa0e86d39e38d5da6e24bfecc0540ab55bd835eba83548458d713,0xb926771e4e6fa1b1d854b5141a33d1ea69f18e9493e4bd4e7fc79ec59c41a85d36321c75af04f2583ea8a5d6ed566b5e9fa774026a91431b6a7df578e7459,-0x3c28cc5f354ba5a9fc8d241587fa21af31c3e6e94de0dd06347765459067893f4625b14ba63b900137e634223d3e51fc18e23feb9d937a72459c82f489561,-0xd89ae46dcc2d34099da88c0eeebe45a7fd8e4a5b978d5a347365896f552ec37edac4d764c4c88fe731af3bde3060926f6c408fa08ce000932d017724e19ee,-0x8a91da38a2dcab2db4bf4a851cf4bbad9dd11812fb953cccc63d0e4b2da4b049c2e28f859aff65c2f55d66641eec3465bf2cc38578db652cb80d1be86824c,0x895aa15dcf5659cff1497ef77c5517ab5bc635dc394b344b270487efb0c24dd81130969cbd26c4b2570453e614b36072827d534508273926630d8792f1505,0xec0ed674cca733ecec2ec718589c4165668c921ed200cb18f949421f53adfeaf33ee49b77683fd220fda76c247b919730b89f5c86cc2ae2e7467e6288190d,0x1ad4fa358f8a2b0001052337ff5f965738e9ef08c0ab36887e87053178564d3d4733548ea08b2398fa1c8ef38e9b07acf14183670a7557085e371538399213,-0xcf563fd1ab64de44118f0ef591830a98b4375aefbd7643b50b3a2c7dad2ddda31ea6a961f9ff6856f9af1536f3807caa73d0d8bccd1b1748307caca0b514,0x5076fb700c91eb0ad7590020d977e1805d604885b67160daae909a62406d3f401f66fe04cdb504d8309c6f2062ee41b2c29c45d2c01b4a6959315c698416e,-0xe7e496b0d5dae89fd6671905c3b39792af4f23aa9c33ab499c18e57447823ce03c684e8e0d3686afff015d66b6d57f8e91b97946b1f2fb236c8d62708a18a,-0x1797837a78ad5a7cb425ecd55e66c7f45320c2112aa185855f9ac4fbdd0f1a3f868873233f2a91c500731f84bf864689b9ca4ffc44787f78ed85c25d65bafe,0x1f12b1884e6ed34a5d58fcbbd9b64bb0e3620c645f1107b850710f74df8470506f39df5b2c079d54de688969e9b3be651cc671df4be8b0402deeed04d7136f,0x38773a3f3a38ff2f461cc1a498212e2699f4b44c91c4fc8fe76a273f7433e99ad868606c13df7bb8fbc1a0e307aa2305e1edc5fc67267c33693811a24a115a,-0x468f56cd9688ad4444754dc5516780d8a728601272b981c9e540ae5c7eccc37be9aaea74cc4f68a295024dd153707784d1a0f06af7b3318b43396873b153b9,0x29803f6a11e403f7ab8ab7f301e524fd966b213312929531e43177e8e94c4228b3ff35f744d7a0381b47d50f48de84c56fabfe6825e7c594421d4081a2f909,-0x3ba482035175b55cdd54937fbed1357892e1679104490919122bafa83262d982e03a473fabb598916f8baa291f85413607e809cc262654bd47d7d78594adb]
def certV25:List (List Int):=[[98,118,202,124,83,146,107,201,172,64,12,55,105,153,239,226,195,7,28,1,187,165,30,221,20],[97,27,31,158,30,77,244,51,44,105,139,212,178,232,112,144,112,50,139,194,131,126,250,243,199],[145,223,213,170,95,13,240,130,153,118,135,223,243,186,171,134,207,140,198,195,116,22,35,91,65],[127,43,6,14,138,151,250,70,62,80,184,44,115,51,176,244,145,131,206,236,45,69,179,200,133],[215,29,202,95,72,74,48,4,10,16,59,3,80,6,27,146,155,64,144,191,207,28,47,186,115],[1,23,188,40,44,144,148,45,179,1,2,131,81,130,190,174,102,201,98,127,88,72,69,149,96],[21,40,35,113,140,63,120,23,173,12,30,112,115,247,188,77,109,86,237,6,190,149,14,217,137],[165,242,4,13,24,68,242,68,11,194,105,217,200,25,217,157,134,179,219,36,80,241,64,196,176],[206,4,124,119,72,189,189,146,49,121,239,155,85,23,138,58,180,221,118,48,106,186,171,238,86],[210,99,247,60,139,154,200,40,223,202,137,227,11,116,74,91,113,69,222,174,223,137,100,238,243],[137,154,125,2,209,203,20,147,218,42,113,181,57,132,187,233,7,180,4,13,134,94,179,172,127],[179,210,49,18,55,213,151,96,5,60,141,57,148,95,99,145,82,178,219,173,202,14,84,100,228],[102,62,217,129,14,127,200,224,35,146,125,220,123,9,18,106,211,148,211,96,123,238,196,223,230],[107,242,170,28,59,5,149,152,27,153,45,77,216,213,205,218,113,101,58,81,174,221,44,184,57],[108,175,78,124,22,49,53,21,88,184,52,93,49,179,193,43,94,166,25,71,133,248,120,207,180],[190,12,33,105,31,211,119,39,220,34,3,27,122,55,99,131,239,148,215,72,248,155,198,222,150],[144,6,56,78,4,2,126,114,216,174,212,176,32,191,21,45,218,115,143,120,153,136,150,24,232],[177,196,131,171,223,9,122,185,198,226,118,98,221,101,109,186,72,130,15,250,167,241,109,149,105],[5,109,58,172,46,17,108,71,152,136,247,173,16,175,59,71,120,96,238,26,93,192,136,39,81],[186,19,103,188,193,244,223,99,12,51,155,33,75,7,116,75,27,25,162,116,163,194,41,249,169],[16,165,61,90,34,101,66,39,9,179,6,2,90,243,140,110,154,165,206,43,233,68,70,8,11],[234,230,151,18,15,70,18,94,170,185,103,207,140,194,73,45,240,94,238,202,45,181,231,74,100],[93,157,117,129,100,102,151,37,142,24,195,236,119,121,156,62,96,20,140,202,137,110,136,203,133],[34,56,244,228,180,109,49,144,4,202,26,66,171,139,244,245,65,98,96,38,169,12,38,158,59],[93,79,212,48,179,15,215,149,126,233,223,17,202,226,95,109,96,28,47,201,229,125,122,118,247]]
theorem certL25_head:certL25.head?=some (2^1024):=by decide +kernel
theorem certL25_len:certL25.length=25:=by unfold certL25;rw[List.length_map];rfl
theorem near25_ok:nearA (2^1024) certL25 certQ25 (2^17) (2^521)=true:=by decide +kernel
theorem ind25_ok:indA (2^1024) certL25 certQ25 certV25 251=true:=by decide +kernel
theorem cert25_zero(k:List Int)(hk:k.length=certL25.length)(hK:∀ x∈k,x.natAbs≤2^17)(hS:(dotI certL25 k).natAbs<2^521):∀ x∈k,x=0:=approx_zero near25_ok ind25_ok k hk hK hS
end Go.Proofs.YtnjedhgcfeoemaaGreatDoor.LN

namespace Go.Proofs.YtnjedhgcfeoemaaGreatDoor
open Go.RowKit
theorem LN.ends_decide_of{pr:List Int}{f:Int→Nat}{K S:Nat}(hz:∀ k:List Int,k.length=pr.length→(∀ x∈k,x.natAbs≤K)→(LN.dotI (pr.map fun p=>(f p:Int)) k).natAbs<S→∀ x∈k,x=0)(hp:pr.Nodup)(l:List (Int×Int))(hl:l.length*K≤S)(hne:l≠[])
  (hm:∀ x∈l,x.1∈pr∧x.2≠0∧x.2.natAbs≤K) (hd:(l.map Prod.fst).Nodup):LN.hiS f (LN.negT l)≤LN.loS f l∨LN.hiS f l≤LN.loS f (LN.negT l):=by
 have h1:=LN.hiS_le f K l fun x hx=>(hm x hx).2.2
 have h2:=LN.hiS_le f K (LN.negT l) (by
  intro x hx
  obtain⟨y,hy,rfl⟩:=List.mem_map.1 hx
  have:=(hm y hy).2.2
  show (-y.2).natAbs≤K
  omega)
 have e:(LN.negT l).length=l.length:=by simp[LN.negT]
 rw[e] at h2
 have h3:=LN.sumT_eq f l
 by_cases hT:(LN.sumT f l).natAbs<S
 ·exfalso
  rw[← LN.dotI_coef f pr hp l fun x hx=>(hm x hx).1] at hT
  have h4:=hz (pr.map fun p=>LN.coefP p l) (by simp) (by
   intro x hx
   obtain⟨p,_,rfl⟩:=List.mem_map.1 hx
   exact LN.coefP_le K l hd (fun y hy=>(hm y hy).2.2) p) hT
  match l,hne with
  | x::r,_ =>
   have h5:=h4 _ (List.mem_map.2 ⟨x.1,(hm x List.mem_cons_self).1,rfl⟩)
   rw[LN.coefP_mem _ hd x List.mem_cons_self] at h5
   exact(hm x List.mem_cons_self).2.1 h5
 ·omega
theorem certL25_pos:∀ x∈LN.certL25,(0:Int)≤x:=by decide +kernel
theorem lg_cert25':oddP.map (fun p=>LN.lg p p.log2 1024 1120)=LN.certL25.tail.map fun x=>some x.toNat:=by decide +kernel
theorem certL25_eq:allP.map (fun p=>((lf 1024 p:Nat):Int))=LN.certL25:=by
 have h:=lg_cert25'
 have h0:=LN.certL25_head
 have hp:=certL25_pos
 obtain⟨c0,ct,e⟩:∃ c0 ct,LN.certL25=c0::ct:=⟨_,_,rfl⟩
 rw[e] at h h0 hp ⊢
 rw[allP_odd,List.map_cons]
 simp only[List.head?_cons,Option.some.injEq] at h0
 rw[lf_two,h0]
 congr 1
 rw[List.tail_cons] at h
 rw[List.map_map]
 have hp':∀ x∈ct,(0:Int)≤x:=fun x hx=>hp x (List.mem_cons_of_mem _ hx)
 clear hp h0 e
 have key:∀ (l:List Nat) (ct:List Int),(∀ p∈l,p∈oddP)→(∀ x∈ct,(0:Int)≤x)→l.map (fun p=>LN.lg p p.log2 1024 1120)=ct.map (fun x=>some x.toNat)→l.map ((fun p=>((lf 1024 p:Nat):Int)) ∘ fun p=>((p:Nat):Int))=ct:=by
  intro l
  induction l with
  | nil =>
   intro ct _ _ h
   cases ct with
   | nil=>rfl
   | cons x r=>simp at h
  | cons p l ih =>
   intro ct hl hc h
   cases ct with
   | nil=>simp at h
   | cons x r =>
    simp only[List.map_cons,List.cons.injEq] at h
    rw[List.map_cons,ih r (fun q hq=>hl q (List.mem_cons_of_mem _ hq)) (fun y hy=>hc y (List.mem_cons_of_mem _ hy)) h.2]
    congr 1
    have:=lg_lgN (hl p (List.mem_cons_self ..)) (by decide) h.1
    have hx:=hc x (List.mem_cons_self ..)
    show ((lgN p 1024:Nat):Int)=x
    rw[this]
    omega
 exact key oddP ct (fun _ h=>h) hp' h
def Ke:Nat:=2^17
theorem dec_of_cert25{tl:List (Int×Int)}(h1:∀ x∈tl,x.1∈allP)(h0:∀ x∈tl,x.2≠0)(hd:(tl.map Prod.fst).Nodup)(hk:∀ x∈tl,x.2.natAbs≤Ke)(hl:tl.length≤100)(hne:tl≠[]):Dec tl:=by
 have hS:=@mul_pow_le tl.length 17 521 hl (by decide)
 have hz:∀ k:List Int,k.length=allP.length→(∀ x∈k,x.natAbs≤Ke)→(LN.dotI (allP.map fun p=>((lf 1024 p:Nat):Int)) k).natAbs<2^521→∀ x∈k,x=0:=by
  intro k hk hK hT
  rw[certL25_eq] at hT
  exact LN.cert25_zero k (by rw[hk,LN.certL25_len];rfl) hK hT
 have:=LN.ends_decide_of hz (by decide) tl hS hne (fun x hx=>⟨h1 x hx,h0 x hx,hk x hx⟩) hd
 unfold Dec
 rw[LN.eLo_eq,LN.eHi_eq]
 omega
theorem Good.all{ps:List Int}{l:List Rat}(h1:∀ p∈ps,p∈allP)(h2:ps.Nodup)(hk:∀ x∈tlQ ps l,x.2.natAbs≤Ke):Good ps l :=
 ⟨h1,h2,fun x hx=>Nat.le_trans (hk x hx) (by decide),fun hn hne=>dec_of_cert25 (fun _ hx=>h1 _ (tlist_mem hx).1) (trt_of h1 h2).nz (trt_of h1 h2).nd hk (tlQ_len100 hn) hne⟩
end Go.Proofs.YtnjedhgcfeoemaaGreatDoor

namespace Go.Proofs.YtnjedhgcfeoemaaGreatDoor.LN
end Go.Proofs.YtnjedhgcfeoemaaGreatDoor.LN

namespace Go.Proofs.YtnjedhgcfeoemaaGreatDoor.LN
def certUA:List (List Int):=[[-366529374168471219660881757358854260481923030538463758512084751101165368965868765205518464276730954796387849320760092003290978986056594420337668804669660390847296384235094022086060948701662963664934088,-580935313469820489357723708887992875975689317799722319968227917127004220401059446167908003738785161849085057587212055801154189465721391265515547715657450481761809163011041834238441228669635065435171806,-851054851483255579986619935921254623946135405184991169839844036714179802753564227536018136581505010985024626073713747935726101681220476643360310109292342860397445298392796570176857912662379824214212428,-1028978042650550933180557961791804634001687170962595617951843945534299615961811396215365672195135717430497342047021033550456041299722351370459721079097633451186518552531381815947617167080378348777188427,-1267983306157749960491913991920202373914735078848290751537723188288310121539334060048543157182367081618594539795290234456246801447720245906387734928146856258237643822140566901866332816390400807879641334,-1356319854038408545823350647938967626976607133879995615741509594652744283164889573336582873328136688637698168278195208207533495601294393541238278375020123336023081647326330565528757662434961234144641163],[-1718401069850792460240258230821930567214047360477444484934168160760012536549082670317841794151605935601205277948056466224498914201930188615215741543655963695297701916056210109851007922408846622017843562,-2723601256912622198503167503332459736128246855944626649426607748060259403045308583053870784798624560976981875108908514926538800755743190605637005632377802276333319754542104865226360301007933135917855169,-3990003722371055809520901552035376433894268408214365745214896102329202389552955187024376099031880904240019660858445649326443356377196996730595942050104985656218249469868625414473711957139195741302739258,-4824161701514674978712058317335834309400755952858694762671616454297815660206694830177371412360521397384815585960113298220525055095282039434754004909626449183004703142693475869417555563356162338732285081,-5944690994541990266177117237309050550368317444862611835426988555586185975139002038425391466444839954944863971795983536494006501040385684161540190197774991607031374590079536027927069987737796836055527690,-6358839570572017673021429855441932654144869871150536294632504974800951077226243229323792743102336939886825614906779487053485218442474456432475274228831461944927853673435067313883192377527780696898853122],[2523054275763633756034117596825892211814980148994729313794263473670261462212204104655381420441413811102291135532002341973597593237103962243622476518678388482336475121962354397311002582075781208526021593,3998946414369534554158456072351422329968508384263181734534688376670806948524961517536443060219466684749729045098283420529383308189167277051416112571277064215454815005801009005907958806763715392444027670,5858350607821267887608226095426036601271642659323424343596626521506610662566618874316532993472510720648050760209759367205803530267170815420885060596236821595906164786000829539360421620296390717393288930,7083108839683520823190735676565485861166419213118995858267469929887991984345794266118589113371168493558414375877153442850437415237741587171371282477055018145989399262972525725951687891903992275484282339,8728333737114741277382759585969961574857860234185406047877598745479532283551635093967510453932218178748264460611292734029153943592996777844600946202606138641690999572165951471790700040770702500083747401,9336410253061458309400077518464479089480315893657746156725053413936599589892662611396941200344431417059104407757984973895188286553835687051219124092419118149191569419748171610942384190881317723705500861],[1648290219614100417935338380391359245499167092472603052851181057888891680409718999047683882798501106931900232457638242696169114297122147415982828022127943019750446415919608776968407214443049758943896568,2612478188393788314366288172447008732397654643362646396239248686791722033388758241920166975558146253746710293486030372165738144955445552308701562221172348092719223373053815140046817653809939663554802259,3827211369450040278189656245547424022973785665101318384514513270336551658803658233459689743981087506037705438655623898566371701170691650076742057214228549851912026966442003408837539734079986401364711731,4627335661013054035799227122073431035040091964127323044919864061684443676406963280356332329787681184927699497000482765122532743073776461832653135794328566131665321262960788706285665641749713247664483274,5702147302423633578812835607984017162296119582935116277611003407812212003468587398654336614715925469516932332607899071756663398094397466688854135259574919324582738688462558509849853122464532656452099247,6099398595683520647414615910023799230001578433837547879649011536816074359124278454913021831959621412198174909087366118567982698705474547013239627116425011695873380779785225975580687426804065798605029545],[-2081359363911009964232050833377229255150589631552976619622594890552243909232856777020653185145124345364611221533836759295962814276631121585431974770983709168817096764157605324806571044877031493185919446,-3298876542323789301545188838412069873122606472101882125392993792200873393289956339261164915647668777334051699542631404373831349967668082542960664481491008082901933495539346809129393318201353755780806478,-4832766782621863683786282360417470411567844028077479483690219658019191554675172566244827891408399461064200397984724078921001031843470650652499700223762653104157384687293120669236469732237850165630460539,-5843114454846257841501970590675282408284598925631530229223817892102074059922047843781580167138991132163659748299662602940766513499394001801104644241771165566836046835526041725661290253861502869956807133,-7200320393260560620362743964482738140129661136579283523697833573270546562672764136247395874477639683654562086331697381360266302964420530853136884262453181748296071170287219328926377553217524590274630310,-7701944857941180578354380449714675677093345005216541905874729650660631859896131092119032083366831011973981538842921251665414236579013882275351030112414548486055649663621767711909419820154940743662071584],[-3027041613133531992803828667403620014182872940975299778990376438873134232672969793644745090975477284630252379638749645424550759122546026644205584270923790233623239539961228411504855529682849070065884640,-4797747444939125471973282334060742388594829436083820187091964198553023672645508821667047381033552419333201950966634736335686480046834516621362644577977179841690341948883025966327290614968640744463019982,-7028572965927910060470345716924058757256892197548999776416305228901067563866468687612919973137735167951488821414200113187810668159367983719815860749969833895270983239839015112770576925967393932361132229,-8497980171903610913556553087070615453620725175261006975900336989781831474863821489668118733602857865424132030713306445006776527237856762131537873446004564481394851533715639340871236094669778169930865883,-10471843467404989946371407102633040832090113055138551993947426613871414557518549089739018805997777303342483304318745110349439135422090417452194435476870511549864075631383898003692857338665528684942265076,-11201385013705204064603040597674147807439825268295585818685322442379692939809003813858307194576318018694233470004123675640431084701175604069838247259970648119673435757713353826683249252538472722215285359]]
def certVA:List (List Int):=[[-58511276111547751058168340505158583244481,-12917127164239769595412160054276741078749,8119370437989125804172669197469859570767,-32879729998891917400085655941464628942717,-75088223772348561039095337994745480464340,54911289762118827524876671098812005678557],[6588341751174671131037557833380308099751,19726274763795916871828877104191073712815,4292762141734063785937090246465369495956,417898744252221810430174663152082810426,-9455208260428995524944155879460438855487,-1689139612388653139919800730624489733811],[207434427815531667652808356861907749609,6308798339842725333695468720600261156270,10854568364980320818740970307916580266740,8950868240922710932565128104522310963886,12585653403184345436959143342541602019176,1661011032111891872176625980829274361741],[4121061610838069244392956914742633778165,-4652926719185522981882508694327945998400,-13785355387455489946853221741023099690914,16298363115007132632408508115631225727646,933150251415826560021310299270902609041,-1114581383711958247797221448389517335997],[-12921692917413360408764856356378142461600,2416717437086177329125143444123825030131,-5630958495640984204460423177058035115542,-8717679415302532043971337145211999675181,9895116286354708238555547111964592434534,-16051474868078554108559107000437081914455],[21813565485209550244542259630564024934278,-7646363369989309612689812812616083868684,4878754374016373159535427357903662319758,-1124993433517499239813487816370622082312,6485777852877863067301668975571185203977,693752746741528719277279537474047493357]]
def KA:Nat:=2^130
def SA:Nat:=2^354
theorem certA_ok:certOk (2^1024) certL certUA certVA 1 KA SA=true:=by decide +kernel
end Go.Proofs.YtnjedhgcfeoemaaGreatDoor.LN

namespace Go.Proofs.YtnjedhgcfeoemaaGreatDoor
open Go.RowKit
end Go.Proofs.YtnjedhgcfeoemaaGreatDoor

namespace Go.Proofs.YtnjedhgcfeoemaaGreatDoor
open Go.RowKit
def flE (xl xh yl yh g d:Int):Option Int:=if yl≤0 then none else if LN.quoL xl yl yh g d=LN.quoH xh yl yh g d then some (LN.quoL xl yl yh g d) else none
def flS (xl xh yl yh g d:Int):Option Int:=if yh≤0 then flE (-xh) (-xl) (-yh) (-yl) g d else flE xl xh yl yh g d
def flAt (n:Nat) (tx ty:List (Int×Int)) (d g:Nat):Option Int:=flS (LN.eLo (lf n) tx) (LN.eHi (lf n) tx) (LN.eLo (lf n) ty) (LN.eHi (lf n) ty) g d
theorem eLo_le(f:Int→Nat):∀ l:List (Int×Int),LN.eLo f l≤LN.eHi f l
 | []=>Int.le_refl _
 | x::l=>by
  have ih:=eLo_le f l
  have e1:LN.eLo f (x::l)=(if x.2<0 then x.2*(LN.hiL f x.1:Int) else x.2*(f x.1:Int))+LN.eLo f l:=by simp[LN.eLo]
  have e2:LN.eHi f (x::l)=(if x.2<0 then x.2*(f x.1:Int) else x.2*(LN.hiL f x.1:Int))+LN.eHi f l:=by simp[LN.eHi]
  have hle:f x.1≤LN.hiL f x.1:=by unfold LN.hiL;split<;>omega
  rw[e1,e2]
  by_cases hk:x.2<0
  ·have h1:x.2*(LN.hiL f x.1:Int)≤x.2*(f x.1:Int):=Int.mul_le_mul_of_nonpos_left (by omega) (by omega)
   rw[if_pos hk,if_pos hk];omega
  ·have h1:x.2*(f x.1:Int)≤x.2*(LN.hiL f x.1:Int):=Int.mul_le_mul_of_nonneg_left (by omega) (by omega)
   rw[if_neg hk,if_neg hk];omega
theorem flE_some{xl xh yl yh g d q:Int}(h:flE xl xh yl yh g d=some q):0<yl∧LN.quoL xl yl yh g d=q∧LN.quoH xh yl yh g d=q:=by
 unfold flE at h
 split at h
 ·cases h
 ·rename_i h1
  split at h
  ·rename_i h2
   have h3:LN.quoL xl yl yh g d=q:=by simpa using h
   exact⟨by omega,h3,by rw[← h2];exact h3⟩
  ·cases h
theorem divZ(w:World)(a b:Int)(K:Nat)(hK:K<90000)(ha:a.natAbs<2^K)(hb:b.natAbs<2^K)(h0:0<b)(L:Laid w):Gives Tryz.prog 163 #[.string (itx a),.string (itx b)] w (.tuple #[.string (itx (a/b)),.string (itx (a%b)),.int .i64 0]):=by
 obtain⟨n,rfl⟩:=Int.eq_ofNat_of_zero_le (Int.le_of_lt h0)
 have hs:Num (a.natAbs+1):=num_two (K:=K+1) (by rw[Nat.pow_succ];omega) (by omega)
 have:=divmodz_any w a n (num_two ha (by omega)) (num_two hb (by omega)) (by omega) hs L
 rw[itx_nat]
 exact this
theorem same_itx(a b:Int):((itx a).toList==(itx b).toList)=decide (a=b):=by
 by_cases h:a=b
 ·subst h;simp
 ·rw[decide_eq_false h,beq_eq_false_iff_ne]
  intro e
  rw[toList_lb,toList_lb] at e
  exact h (itx_inj (by
   have h1:(itx a).data.toList=(itx b).data.toList:=e
   exact ByteArray.ext (Array.toList_inj.1 h1)))
theorem ends_near(f:Int→Nat)(K:Nat)(l:List (Int×Int))(h:∀ x∈l,x.2.natAbs≤K):
  LN.eLo f l≤LN.sumT f l∧LN.sumT f l≤LN.eHi f l∧LN.eHi f l≤LN.sumT f l+(l.length*K:Nat)∧LN.sumT f l≤LN.eLo f l+(l.length*K:Nat):=by
 have h1:=LN.hiS_le f K l h
 have h2:=LN.hiS_le f K (LN.negT l) (by
  intro x hx
  obtain⟨y,hy,rfl⟩:=List.mem_map.1 hx
  have:=h y hy
  show (-y.2).natAbs≤K
  omega)
 have e:(LN.negT l).length=l.length:=by simp[LN.negT]
 rw[e] at h2
 have h3:∀ l:List (Int×Int),LN.loS f l≤LN.hiS f l:=by
  intro l
  induction l with
  | nil=>exact Nat.le_refl _
  | cons x l ih =>
   rw[LN.loS,LN.hiS]
   refine Nat.add_le_add (Nat.mul_le_mul_left _ ?_) ih
   unfold LN.hiL;split<;>omega
 have h4:=h3 l
 have h5:=h3 (LN.negT l)
 rw[LN.eLo_eq,LN.eHi_eq,LN.sumT_eq]
 omega
theorem dotI_lin(a b:Int):∀ (u:List Int) (pr:List Int) (g h:Int→Int),LN.dotI u (pr.map fun p=>a*g p-b*h p)=a*LN.dotI u (pr.map g)-b*LN.dotI u (pr.map h)
 | [],_,_,_=>by simp[LN.dotI]
 | _::_,[],_,_=>by simp[LN.dotI]
 | c::u,p::pr,g,h=>by
  have ih:=dotI_lin a b u pr g h
  simp only[List.map_cons,LN.dotI]
  rw[ih]
  grind
theorem primesL_small:∀ k,k<10→(∀ p∈primesL k,p∈smallP)∧(primesL k).Nodup:=by decide +kernel
def Sml (N M:Nat) (l:List Rat):Prop:=∀ q∈l,q.den ∣ M∧(LN.ex M q).natAbs≤N
theorem Sml.le{N K M:Nat}{l:List Rat}(h:Sml N M l)(hK:N≤K):Sml K M l:=fun q hq=>⟨(h q hq).1,Nat.le_trans (h q hq).2 hK⟩
theorem ex_den{M:Nat}{q:Rat}(z:Int)(hM:0<M)(h:q*(M:Rat)=(z:Rat)):q.den ∣ M∧LN.ex M q=z:=by
 have hM':(M:Rat)≠0:=by have:=Rat.natCast_pos.2 hM;grind
 have e:q=mkRat z M:=by
  rw[Rat.mkRat_eq_div]
  have:=Rat.mul_div_cancel (a:=q) hM'
  rw[← h];exact this.symm
 have hd:q.den ∣ M:=by
  rw[e,LN.mkRat_den' _ _ (by omega)]
  exact Nat.div_dvd_of_dvd (Nat.gcd_dvd_right _ _)
 refine⟨hd,?_⟩
 rw[← Rat.intCast_inj,LN.ex_eq hd,h]
theorem Sml.comb{N K M:Nat}{la lb:List Rat}(hM:0<M)(ha:Sml N M la)(hb:Sml K M lb)(f g:Int):Sml (N*f.natAbs+K*g.natAbs) M (combineQ la lb (f:Rat) (g:Rat)):=by
 intro q hq
 obtain⟨i,hi,rfl⟩:=List.mem_iff_getElem.1 hq
 have hi':i<la.length∧i<lb.length:=by simp[combineQ] at hi;omega
 simp only[combineQ,List.getElem_zipWith]
 obtain⟨d1,n1⟩:=ha _ (List.getElem_mem hi'.1)
 obtain⟨d2,n2⟩:=hb _ (List.getElem_mem hi'.2)
 have h:(la[i]'hi'.1*(f:Rat)+lb[i]'hi'.2*(g:Rat))*(M:Rat)=((LN.ex M (la[i]'hi'.1)*f+LN.ex M (lb[i]'hi'.2)*g:Int):Rat):=by
  rw[Rat.intCast_add,Rat.intCast_mul,Rat.intCast_mul,LN.ex_eq d1,LN.ex_eq d2]
  grind
 obtain⟨r1,r2⟩:=ex_den _ hM h
 refine⟨r1,?_⟩
 rw[r2]
 refine Nat.le_trans (Int.natAbs_add_le _ _) ?_
 rw[Int.natAbs_mul,Int.natAbs_mul]
 exact Nat.add_le_add (Nat.mul_le_mul_right _ n1) (Nat.mul_le_mul_right _ n2)
theorem smallP_nd:smallP.Nodup:=by decide
def ZeroB (pr:List Int) (K S:Nat):Prop:=∀ k:List Int,k.length=pr.length→(∀ x∈k,x.natAbs≤K)→(LN.dotI (pr.map fun p=>((lf 1024 p:Nat):Int)) k).natAbs<S→∀ x∈k,x=0
theorem smallZ:ZeroB smallP LN.KA LN.SA:=fun k hk hK hT=>by
 have hc:=LN.certA_ok
 rw[← certL_eq] at hc
 exact LN.cert_zero hc k (by rw[hk];simp) hK hT
theorem coefs_small{pr:List Int}{KA SA:Nat}(hpd:pr.Nodup)(hZ:ZeroB pr KA SA){tx ty:List (Int×Int)}{d g Kx Ky R:Nat}{j:Int}(mx:∀ x∈tx,x.1∈pr)(my:∀ x∈ty,x.1∈pr)(nx:(tx.map Prod.fst).Nodup)(ny:(ty.map Prod.fst).Nodup)
  (hkx:∀ x∈tx,x.2.natAbs≤Kx) (hky:∀ x∈ty,x.2.natAbs≤Ky) (hj:j.natAbs≤R) (hk:g*Kx+R*d*Ky≤KA)
  (h:(g*LN.sumT (lf 1024) tx-j*d*LN.sumT (lf 1024) ty).natAbs<SA):∀ p∈pr,(g:Int)*LN.coefP p tx=j*d*LN.coefP p ty:=by
 rw[← LN.dotI_coef (lf 1024) pr hpd tx mx,← LN.dotI_coef (lf 1024) pr hpd ty my,← dotI_lin] at h
 have hz:=hZ (pr.map fun p=>(g:Int)*LN.coefP p tx-j*d*LN.coefP p ty) (by simp) (by
  intro x hx
  obtain⟨p,_,rfl⟩:=List.mem_map.1 hx
  have b1:=LN.coefP_le Kx tx nx hkx p
  have b2:=LN.coefP_le Ky ty ny hky p
  have c1:((g:Int)*LN.coefP p tx).natAbs≤g*Kx:=by rw[Int.natAbs_mul,Int.natAbs_natCast];exact Nat.mul_le_mul_left _ b1
  have c2:(j*d*LN.coefP p ty).natAbs≤R*d*Ky:=by
   rw[Int.natAbs_mul,Int.natAbs_mul,Int.natAbs_natCast]
   exact Nat.mul_le_mul (Nat.mul_le_mul_right _ hj) b2
  omega) h
 intro p hp
 have:=hz _ (List.mem_map.2 ⟨p,hp,rfl⟩)
 omega
theorem Sml.kb{N M:Nat}{ps:List Int}{l:List Rat}(hM:0<M)(h:Sml N M l):∀ x∈tlQ ps l,x.2.natAbs≤N:=by
 intro x hx
 obtain⟨_,q,hq,_,he⟩:=tlist_mem hx
 have e:x.2=LN.ex (tden l) q:=he
 obtain⟨m,hm⟩:=LN.tden_min (fun q hq=>(h q hq).1)
 have h3:=(h q hq).2
 rw[hm,Nat.mul_comm,LN.ex_mul (LN.tden_dvd hq),Int.natAbs_mul,Int.natAbs_natCast] at h3
 have hm0:0<m:=by
  rcases Nat.eq_zero_or_pos m with h0|h0
  ·rw[h0,Nat.mul_zero] at hm;omega
  ·exact h0
 rw[e]
 have h4:1*(LN.ex (tden l) q).natAbs≤m*(LN.ex (tden l) q).natAbs:=Nat.mul_le_mul_right _ hm0
 omega
theorem Sml.den{N:Nat}{l:List Rat}(h:Sml N 12 l):tden l≤12:=Nat.le_of_dvd (by decide) (LN.tden_min (fun q hq=>(h q hq).1))
theorem tlQ_len6{ps:List Int}(h:ps.length≤6)(l:List Rat):(tlQ ps l).length≤6:=Nat.le_trans (by have:=(tlist_fst (tden l) ps l).length_le;rw[List.length_map] at this;exact this) h
theorem zw_sub{la lb:List Rat}(q r:Int)(h:la.length=lb.length):LN.subQ r la lb=List.zipWith (· + ·) (LN.subQ q la lb) (lb.map fun x=>(((q-r:Int)):Rat)*x):=by
 obtain⟨m,hm⟩:∃ m:Rat,(((q-r:Int)):Rat)=m:=⟨_,rfl⟩
 have e:=Rat.intCast_sub q r
 rw[hm] at e ⊢
 clear hm
 refine List.ext_getElem (by simp[LN.subQ,h]) fun i h1 h2=>?_
 simp only[LN.subQ,List.getElem_zipWith,List.getElem_map]
 grind
theorem szc{ps:List Int}(hp:∀ p∈ps,0<p)(l:List Rat):LN.sz ps l=1∨LN.sz ps l=0∨LN.sz ps l = -1:=by
 rw[LN.sz_of_vt hp];exact LN.sg_cases _
theorem sumT_next(f:Int→Nat)(D:Nat)(p:Int)(ps:List Int)(q:Rat)(l:List Rat):LN.sumT f (tlist D (p::ps) (q::l))=LN.ex D q*f p+LN.sumT f (tlist D ps l):=by
 unfold tlist
 rw[List.zip_cons_cons,List.filterMap_cons]
 by_cases h:q.num=0
 ·simp only[h,if_true]
  rw[LN.ex_zero q h,Int.zero_mul,Int.zero_add]
 ·simp only[h,if_false];rfl
theorem ex_subI{D:Nat}{a b:Rat}(q:Int)(hD:0<D)(ha:a.den ∣ D)(hb:b.den ∣ D):(a+(-(q:Rat))*b).den ∣ D∧LN.ex D (a+(-(q:Rat))*b)=LN.ex D a-q*LN.ex D b:=by
 refine ex_den _ hD ?_
 rw[Rat.intCast_sub,Rat.intCast_mul,LN.ex_eq ha,LN.ex_eq hb]
 grind
theorem sumT_sub(f:Int→Nat)(D:Nat)(hD:0<D)(q:Int):∀ (ps:List Int) (la lb:List Rat),la.length=lb.length→(∀ x∈la,x.den ∣ D)→(∀ x∈lb,x.den ∣ D) →
  LN.sumT f (tlist D ps (LN.subQ q la lb))=LN.sumT f (tlist D ps la)-q*LN.sumT f (tlist D ps lb)
 | [],_,_,_,_,_=>by simp[tlist,LN.sumT]
 | _::_,[],[],_,_,_=>by simp[tlist,LN.sumT,LN.subQ]
 | p::ps,a::la,b::lb,hl,h1,h2=>by
  have ih:=sumT_sub f D hD q ps la lb (by simpa using hl) (fun x hx=>h1 x (List.mem_cons_of_mem _ hx)) fun x hx=>h2 x (List.mem_cons_of_mem _ hx)
  have e:LN.subQ q (a::la) (b::lb)=(a+(-(q:Rat))*b)::LN.subQ q la lb:=rfl
  rw[e,sumT_next,sumT_next,sumT_next,ih,(ex_subI q hD (h1 a List.mem_cons_self) (h2 b List.mem_cons_self)).2]
  grind
theorem sumT_times(f:Int→Nat)(m D:Nat):∀ (ps:List Int) (l:List Rat),(∀ x∈l,x.den ∣ D)→LN.sumT f (tlist (m*D) ps l)=(m:Int)*LN.sumT f (tlist D ps l)
 | [],_,_=>by simp[tlist,LN.sumT]
 | _::_,[],_=>by simp[tlist,LN.sumT]
 | p::ps,q::l,h=>by
  have ih:=sumT_times f m D ps l fun x hx=>h x (List.mem_cons_of_mem _ hx)
  rw[sumT_next,sumT_next,ih,LN.ex_mul (h q List.mem_cons_self)]
  grind
theorem sz_sumT{ps:List Int}{l:List Rat}{M:Nat}(g:Good ps l)(hn:ps.length≤100)(hM:0<M)(h:∀ q∈l,q.den ∣ M):
  (0<LN.sumT (lf 1024) (tlist M ps l)→LN.sz ps l=1)∧(LN.sumT (lf 1024) (tlist M ps l)<0→LN.sz ps l = -1):=by
 obtain⟨m,hm⟩:=LN.tden_min h
 have hm0:0<m:=by
  rcases Nat.eq_zero_or_pos m with h0|h0
  ·rw[h0,Nat.mul_zero] at hm;omega
  ·exact h0
 have e:LN.sumT (lf 1024) (tlist M ps l)=(m:Int)*LN.sumT (lf 1024) (tlQ ps l):=by
  rw[hm,Nat.mul_comm]
  exact sumT_times _ _ _ _ _ fun q hq=>LN.tden_dvd hq
 rw[e]
 obtain⟨y1,y2,_,_⟩:=ends_near (lf 1024) Kb (tlQ ps l) g.kb
 have hz:LN.sz ps l=LN.signT (tlQ ps l):=rfl
 by_cases hne:tlQ ps l=[]
 ·rw[hne]
  show (0<(m:Int)*0→_)∧((m:Int)*0<0→_)
  rw[Int.mul_zero]
  exact⟨fun h=>absurd h (by decide),fun h=>absurd h (by decide)⟩
 ·generalize LN.sumT (lf 1024) (tlQ ps l)=s at *
  rcases g.dec hn hne with h|h
  ·have h1:=sign_of_lo g.trt (by decide) hne h
   have h2:0≤(m:Int)*s:=Int.mul_nonneg (by omega) (by omega)
   exact⟨fun _=>hz.trans h1,fun h3=>by omega⟩
  ·have h1:=sign_of_hi g.trt (by decide) hne h
   have h2:(m:Int)*s≤0:=Int.mul_nonpos_of_nonneg_of_nonpos (by omega) (by omega)
   exact⟨fun h3=>by omega,fun _=>hz.trans h1⟩
theorem floor_mono{ps:List Int}{la lb:List Rat}(hp:∀ p∈ps,0<p)(hl:la.length=lb.length){q r:Int}(hqr:r≤q)(h:0≤LN.sz ps (LN.subQ q la lb)*LN.sz ps lb):0≤LN.sz ps (LN.subQ r la lb)*LN.sz ps lb:=by
 have e:=zw_sub q r hl (la:=la) (lb:=lb)
 have hlen:(LN.subQ q la lb).length=(lb.map fun x=>(((q-r:Int)):Rat)*x).length:=by simp[LN.subQ,hl]
 have hm:LN.sz ps (lb.map fun x=>(((q-r:Int)):Rat)*x)=(q-r).sign*LN.sz ps lb:=by
  rw[LN.sz_mul hp,Rat.num_intCast]
 have hn:(q-r).sign=1∨(q-r).sign=0:=by
  rcases sign_cases (q-r) with h|h|h
  ·omega
  ·exact .inr h.2
  ·exact .inl h.2
 rcases szc hp lb with hw|hw|hw
 ·rw[hw] at h hm ⊢
  have:=LN.sz_add_ge hp hlen e (by omega) (by rw[hm];rcases hn with h | h<;>rw[h]<;>decide)
  omega
 ·rw[hw];omega
 ·rw[hw] at h hm ⊢
  have:=LN.sz_add_le hp hlen e (by omega) (by rw[hm];rcases hn with h | h<;>rw[h]<;>decide)
  omega
theorem floor_le{ps:List Int}{la lb:List Rat}(hp:∀ p∈ps,0<p)(hn:ps.length≤100)(hl:la.length=lb.length){M:Nat}(hM:0<M)(da:∀ x∈la,x.den ∣ M)(db:∀ x∈lb,x.den ∣ M)(gb:Good ps lb){Q:Int}
  (g1:Good ps (LN.subQ Q la lb)) (g2:Good ps (LN.subQ (-Q) la lb)) (hU1:LN.sumT (lf 1024) (tlist M ps la)<Q*((LN.sumT (lf 1024) (tlist M ps lb)).natAbs:Int)) (hU2 : -(Q*((LN.sumT (lf 1024) (tlist M ps lb)).natAbs:Int))<LN.sumT (lf 1024) (tlist M ps la))
  {q:Int} (hf:LN.FloorOf ps la lb q) : -Q-1≤q∧q<Q:=by
 have dsub:∀ (r:Int),∀ x∈LN.subQ r la lb,x.den ∣ M:=by
  intro r x hx
  unfold LN.subQ at hx
  obtain⟨i,hi,rfl⟩:=List.mem_iff_getElem.1 hx
  rw[List.getElem_zipWith]
  exact(ex_subI r hM (da _ (List.getElem_mem _)) (db _ (List.getElem_mem _))).1
 obtain⟨b1,b2⟩:=sz_sumT gb hn hM db
 obtain⟨c1,c2⟩:=sz_sumT g1 hn hM (dsub Q)
 obtain⟨d1,d2⟩:=sz_sumT g2 hn hM (dsub (-Q))
 rw[sumT_sub _ _ hM _ _ _ _ hl da db] at c1 c2 d1 d2
 rw[Int.neg_mul] at d1 d2
 generalize LN.sumT (lf 1024) (tlist M ps la)=A at *
 generalize LN.sumT (lf 1024) (tlist M ps lb)=B at *
 have key:LN.sz ps (LN.subQ Q la lb)*LN.sz ps lb<0∧0≤LN.sz ps (LN.subQ (-Q) la lb)*LN.sz ps lb:=by
  rcases Int.lt_trichotomy B 0 with hB|hB|hB
  ·rw[show ((B.natAbs:Nat):Int) = -B by omega,Int.mul_neg] at hU1 hU2
   rw[b2 hB,c1 (by omega),d2 (by omega)]
   decide
  ·rw[hB] at hU1 hU2
   simp only[Int.natAbs_zero,Int.natCast_zero,Int.mul_zero] at hU1 hU2
   omega
  ·rw[show ((B.natAbs:Nat):Int)=B by omega] at hU1 hU2
   rw[b1 hB,c2 (by omega),d1 (by omega)]
   decide
 refine⟨Int.not_lt.1 fun h=>?_,Int.not_le.1 fun h=>?_⟩
 ·have h1:=floor_mono hp hl (q := -Q) (r:=q+1) (by omega) key.2
  have h2:=hf.2
  omega
 ·have h1:=floor_mono hp hl h hf.1
  have h2:=key.1
  omega
/-! The numbers of the law. -/
def OwnI (w:World) (B:Nat) (a:Option Addr) (c:Nat) (l:List Int):Prop:=w.ownsRow B 3 1 (.slice a l.length c) l.length (ints l)
theorem OwnI.rd{w:World}{B c:Nat}{a:Option Addr}{l:List Int}(h:OwnI w B a c l):Rd w a (ints l):=own_rd h
theorem OwnI.below{w w':World}{B c:Nat}{a:Option Addr}{l:List Int}(h:OwnI w B a c l){D:Nat}(hb:Below D w w')(hD:w.heap.size≤D):OwnI w' B a c l:=own_below h hb hD
theorem OwnI.nil(w:World)(B:Nat):OwnI w B none 0 []:=World.ownsRow_nil w B _ 1
theorem allP_le{p:Int}(h:p∈allP):2≤p∧p≤97:=by
 have key:∀ q∈allP,2≤q∧q≤97:=by decide
 exact key p h
structure PrOk (ps:List Int):Prop where
 p0:pcode ps=0
 all:∀ p∈ps,p∈allP
 nd:ps.Nodup
 n0:0<ps.length
 n6:ps.length≤6
theorem PrOk.pr{ps:List Int}(P:PrOk ps):∀ p∈ps,2≤p∧p≤97:=fun p hp=>allP_le (P.all p hp)
theorem PrOk.pos{ps:List Int}(P:PrOk ps):∀ p∈ps,0<p:=fun p hp=>by have:=P.pr p hp;omega
theorem PrOk.i64{ps:List Int}(P:PrOk ps):I64s ps:=fun p hp=>by have:=P.pr p hp;omega
def rq (x:List Int):List Rat:=x.map fun x:Int=>(x:Rat)
def Bd (N:Nat) (x:List Int):Prop:=∀ a∈x,a.natAbs≤N
theorem Bd.le{N K:Nat}{x:List Int}(h:Bd N x)(hK:N≤K):Bd K x:=fun a ha=>Nat.le_trans (h a ha) hK
theorem Bd.sm{N D:Nat}{x:List Int}(h:Bd N x)(hD:N<10^D)(h1:1<10^D):∀ q∈rq x,Sm D q:=fun q hq=>by
 obtain⟨a,ha,rfl⟩:=List.mem_map.1 hq
 exact⟨by rw[Rat.num_intCast];exact Nat.lt_of_le_of_lt (h a ha) hD,by rw[Rat.den_intCast];exact h1⟩
def bcode (p n:Int):Int:=if IsPz p then (if n<0∨1000<n then 3 else 0) else 25
theorem isP_le{p:Int}(h:IsPz p):2≤p∧p≤97:=by
 obtain⟨h0,h1,h2,-⟩:=h
 omega
theorem checkBounds_any(w:World)(p n:Int)(p0 : -9223372036854775808≤p)(p1:p≤9223372036854775807)(n0 : -9223372036854775808≤n)(n1:n≤9223372036854775807):
  Gives Tryz.prog 66 #[.int .i64 p,.int .i64 n] w (.int .i64 (bcode p n)):=by
 unfold Gives
 have HP:=hd_ (isPrimez_any w p p0 p1)
 by_cases h:IsPz p
 ·rw[decide_eq_true h] at HP
  have Hv:Hid (bcode p n=if n<0∨1000<n then 3 else 0):=by show _=_;unfold bcode;rw[if_pos h]
  generalize bcode p n=v at *
  clear h
  by_cases h1:n<0
  ·have Hv2:Hid (v=3):=by show _=_;rw[Hv.out,if_pos (.inl h1)]
   clear Hv
   go_enter Tryz.func66,Tryz.ntmps66
   go_wp2_with fail
   refine cm_ HP.out ?_
   rintro e w1 ⟨rfl,hb⟩
   have B1:=hd_ hb
   clear hb HP
   go_wp2_with fail
   go_ret
   exact⟨by rw[Hv2.out];rfl,B1.out⟩
  ·by_cases h2:1000<n
   ·have Hv2:Hid (v=3):=by show _=_;rw[Hv.out,if_pos (.inr h2)]
    clear Hv
    go_enter Tryz.func66,Tryz.ntmps66
    go_wp2_with fail
    refine cm_ HP.out ?_
    rintro e w1 ⟨rfl,hb⟩
    have B1:=hd_ hb
    clear hb HP
    go_wp2_with fail
    go_ret
    exact⟨by rw[Hv2.out];rfl,B1.out⟩
   ·have Hv2:Hid (v=0):=by show _=_;rw[Hv.out,if_neg (by omega)]
    clear Hv
    go_enter Tryz.func66,Tryz.ntmps66
    go_wp2_with fail
    refine cm_ HP.out ?_
    rintro e w1 ⟨rfl,hb⟩
    have B1:=hd_ hb
    clear hb HP
    go_wp2_with fail
    go_ret
    exact⟨by rw[Hv2.out];rfl,B1.out⟩
 ·rw[decide_eq_false h] at HP
  have Hv2:Hid (bcode p n=25):=by show _=_;unfold bcode;rw[if_neg h]
  generalize bcode p n=v at *
  clear h
  go_enter Tryz.func66,Tryz.ntmps66
  go_wp2_with fail
  refine cm_ HP.out ?_
  rintro e w1 ⟨rfl,hb⟩
  have B1:=hd_ hb
  clear hb HP
  go_wp2_with fail
  go_ret
  exact⟨by rw[Hv2.out];rfl,B1.out⟩
def bndV (p n:Int) (s:ByteArray):Value := .agg #[.int .i64 p,.int .i64 n,.string s]
theorem power_ok(w:World)(n:Nat)(hn:n≤4000)(L:Laid w):Gives Tryz.prog 152 #[.int .i64 n] w (.string (dec (2^n))):=by
 unfold Gives
 have HP:=hd_ (wpow2 w n hn L)
 generalize dec (2^n)=s at *
 go_enter Tryz.func152,Tryz.ntmps152
 go_wp2_with fail
 refine cm_ HP.out ?_
 rintro e w1 ⟨rfl,hb⟩
 have B1:=hd_ hb
 clear hb HP
 go_wp2_with fail
 go_ret
 exact⟨rfl,B1.out⟩
theorem three_stored{w0 w:World}{B g:Nat}{a b c:Value}(x y z:Value)(k0:w.cell? ⟨g,0,none⟩=some a)(k1:w.cell? ⟨g,1,none⟩=some b)(k2:w.cell? ⟨g,2,none⟩=some c)(hB:B≤g)(hb:Below B w0 w):
  (((w.setCell ⟨g,0,none⟩ x).setCell ⟨g,1,none⟩ y).setCell ⟨g,2,none⟩ z).cell? ⟨g,0,none⟩=some x∧(((w.setCell ⟨g,0,none⟩ x).setCell ⟨g,1,none⟩ y).setCell ⟨g,2,none⟩ z).cell? ⟨g,1,none⟩=some y∧(((w.setCell ⟨g,0,none⟩ x).setCell ⟨g,1,none⟩ y).setCell ⟨g,2,none⟩ z).cell? ⟨g,2,none⟩=some z ∧
  Below B w0 (((w.setCell ⟨g,0,none⟩ x).setCell ⟨g,1,none⟩ y).setCell ⟨g,2,none⟩ z):=by
 refine⟨?_,?_,?_,?_⟩
 ·rw[World.cell?_setCell_other _ _ _ _ (by simp),World.cell?_setCell_other _ _ _ _ (by simp),World.cell?_setCell_same _ _ _ k0]
 ·rw[World.cell?_setCell_other _ _ _ _ (by simp),World.cell?_setCell_same _ _ _ (by rw[World.cell?_setCell_other _ _ _ _ (by simp)];exact k1)]
 ·rw[World.cell?_setCell_same _ _ _ (by rw[World.cell?_setCell_other _ _ _ _ (by simp),World.cell?_setCell_other _ _ _ _ (by simp)];exact k2)]
 ·exact((hb.setCell (p:=⟨g,0,none⟩) hB x).setCell (p:=⟨g,1,none⟩) hB y).setCell (p:=⟨g,2,none⟩) hB z
theorem eOf_ok(w:World)(p n:Nat)(hp:p=2∨p∈oddP)(hpz:IsPz p)(hn:n≤1000)(L:Laid w):
  Gives Tryz.prog 17 #[.int .i64 p,.int .i64 n] w (.tuple #[bndV p n (dec (lgN p n)),.int .i64 0]):=by
 unfold Gives bndV
 have Hb0:=hd_ ((Below.refl w.heap.size w).alloc nr_ (.cells #[.int .i64 0,.int .i64 0,.string ⟨#[]⟩] 27))
 have Hnew:Hid ((w.alloc (.cells #[.int .i64 0,.int .i64 0,.string ⟨#[]⟩] 27)).heap[w.heap.size]?=some (.cells #[.int .i64 0,.int .i64 0,.string ⟨#[]⟩] 27 (0,0))):=heap_alloc_new w _
 have h97:=isP_le hpz
 have HC:=hd_ (fun W=>checkBounds_any W p n (by omega) (by omega) (by omega) (by omega))
 have hb0:bcode p n=0:=by unfold bcode;rw[if_pos hpz,if_neg (by omega)]
 rw[hb0] at HC
 have HLo:=hd_ (fun W (hW:Below w.heap.size w W)=>elow_any W p n hp hn (L.below hW))
 clear hb0 hp hpz L h97 hn
 generalize dec (lgN p n)=s at *
 go_enter Tryz.func17,Tryz.ntmps17
 go_wp2_with fail
 generalize w.alloc (.cells #[.int .i64 0,.int .i64 0,.string ⟨#[]⟩] 27)=W0 at *
 refine cm_ (HC.out _) ?_
 rintro e w1 ⟨rfl,hb⟩
 have B1:=hd_ hb
 have Hbw1:=hd_ (Hb0.out.trans (hb.mono Hb0.out.size))
 clear hb HC
 go_wp2_with fail
 refine cm_ (HLo.out _ Hbw1.out) ?_
 rintro e w2 ⟨rfl,hb⟩
 have B2:=hd_ (B1.out.trans (hb.mono B1.out.size))
 have Hcell:Hid (w2.heap[w.heap.size]?=some (.cells #[.int .i64 0,.int .i64 0,.string ⟨#[]⟩] 27 (0,0))):=by
  show _=_
  rw[B2.out.block _ (Array.getElem?_eq_some_iff.1 Hnew.out).1];exact Hnew.out
 have Hbw:=hd_ (Hbw1.out.trans (hb.mono Hbw1.out.size))
 obtain⟨k0,k1,k2,kf⟩:=three_cells Hcell.out
 have f0:=kf 0
 have f1:=kf 1
 have f2:=kf 2
 clear hb HLo kf Hcell Hnew Hb0 B1 B2 Hbw1
 go_wp2
 obtain⟨c0,c1,c2,hb3⟩:=three_stored (.int .i64 p) (.int .i64 n) (.string s) k0 k1 k2 nr_ Hbw.out
 generalize ((w2.setCell ⟨w.heap.size,0,none⟩ (.int .i64 p)).setCell ⟨w.heap.size,1,none⟩ (.int .i64 n)).setCell ⟨w.heap.size,2,none⟩ (.string s)=w9 at *
 exact bodyPost_ret (v := .tuple #[.agg #[.int .i64 p,.int .i64 n,.string s],.int .i64 0]) (by simp[results,Tryz.results17,go_sem,c0,c1,c2]) rfl ⟨rfl,hb3⟩
theorem densL_dvd:∀ d,d<6→0<densL d∧densL d ∣ 12:=by decide
theorem mkRat_mul_den(z:Int)(d:Nat)(hd:0<d):mkRat z d*(d:Rat)=(z:Rat):=by
 rw[Rat.mkRat_eq_div]
 exact Rat.div_mul_cancel (by have:=Rat.natCast_pos.2 hd;grind)
theorem fracQ_twelve(n:Int)(d:Nat):∃ z:Int,fracQ n d*((12:Nat):Rat)=(z:Rat)∧z.natAbs≤480:=by
 obtain⟨h1,m,hm⟩:=densL_dvd (d%6) (Nat.mod_lt _ (by decide))
 have t1:=Int.tmod_lt_of_pos n (show (0:Int)<41 by decide)
 have t2:=Int.lt_tmod_of_pos n (show (0:Int)<41 by decide)
 refine⟨n.tmod 41*m,?_,?_⟩
 ·unfold fracQ
  have e:=mkRat_mul_den (n.tmod 41) (densL (d%6)) h1
  rw[hm,Rat.natCast_mul,← Rat.mul_assoc,e,Rat.intCast_mul,Rat.intCast_natCast]
 ·have hm2:m≤12:=by
   have:1*m≤densL (d%6)*m:=Nat.mul_le_mul_right _ h1
   omega
  rw[Int.natAbs_mul,Int.natAbs_natCast]
  exact Nat.le_trans (Nat.mul_le_mul (show (n.tmod 41).natAbs≤40 by omega) hm2) (by decide)
theorem partsQ_sml(nu:Nat→Int)(de:Nat→Nat)(m:Nat):Sml 480 12 (partsQ nu de m):=by
 intro q hq
 obtain⟨i,_,rfl⟩:=List.mem_map.1 hq
 obtain⟨z,h,hz⟩:=fracQ_twelve (nu i) (de i)
 obtain⟨r1,r2⟩:=ex_den z (by decide) h
 exact⟨r1,by rw[r2];exact hz⟩
structure TwoF (w:World) (s t s' t':ByteArray) (W0:World):Prop where
 fa:W0.heap[w.heap.size]?=some (.cells #[.string s,.string t] 42 (0,0))
 fb:W0.heap[w.heap.size+1]?=some (.cells #[.string s',.string t'] 42 (0,0))
 bel:Below w.heap.size w W0
theorem TwoF.mk'(w:World)(s t s' t':ByteArray):TwoF w s t s' t' ((w.alloc (.cells #[.string s,.string t] 42)).alloc (.cells #[.string s',.string t'] 42)):=by
 have hA:=heap_alloc_new w (.cells #[.string s,.string t] 42)
 have hB:=heap_alloc_new (w.alloc (.cells #[.string s,.string t] 42)) (.cells #[.string s',.string t'] 42)
 have e1:(w.alloc (.cells #[.string s,.string t] 42)).heap.size=w.heap.size+1:=by simp
 refine⟨?_,?_,?_⟩
 ·exact stored_cell hA ((Below.refl _ _).alloc nr_ _)
 ·rw[e1] at hB
  exact hB
 ·exact((Below.refl _ _).alloc nr_ _).alloc (by simp) _
theorem TwoF.next{w W0 W:World}{s t s' t':ByteArray}(h:TwoF w s t s' t' W0)(hb:Below W0.heap.size W0 W):TwoF w s t s' t' W :=
 ⟨stored_cell h.fa hb,stored_cell h.fb hb,h.bel.trans (hb.mono h.bel.size)⟩
theorem cmpZ_mul{n m:Int}{d:Nat}(h:0<d):cmpZ (n*d) (m*d)=cmpZ n m:=by
 have h':(0:Int)<d:=by omega
 unfold cmpZ
 have e1:n*(d:Int)<m*d↔n<m:=Int.mul_lt_mul_right h'
 have e2:n*(d:Int)=m*d↔n=m:=⟨fun h1=>Int.eq_of_mul_eq_mul_right (by omega) h1,fun h1=>by rw[h1]⟩
 by_cases h1:n<m
 ·rw[if_pos h1,if_pos (e1.2 h1)]
 ·rw[if_neg h1,if_neg (fun h=>h1 (e1.1 h))]
  by_cases h2:n=m
  ·rw[if_pos h2,if_pos (e2.2 h2)]
  ·rw[if_neg h2,if_neg (fun h=>h2 (e2.1 h))]
theorem dec_ne{d e:Nat}(h:d≠e):((dec d).toList==(dec e).toList)=false:=by
 rw[beq_eq_false_iff_ne]
 intro h1
 refine h (dec_inj ?_)
 rw[← lb_dec,← lb_dec]
 rw[← toList_lb,← toList_lb]
 exact h1
theorem compare_frac(w:World)(n m:Int)(d e:Nat)(hn:ZNum n)(hm:ZNum m)(hd:Num d)(he:Num e)(hd0:0<d)
  (hne:Num (n*e).natAbs) (hmd:Num (m*d).natAbs) (L:Laid w) :
  Gives Tryz.prog 43 #[fv n d,fv m e] w (.int .i64 (cmpZ (n*e) (m*d))):=by
 have H3:=hd_ (TwoF.mk' w (itx n) (dec d) (itx m) (dec e))
 have HL:=hd_ (L.below H3.out.bel)
 clear L
 obtain⟨v,hv⟩:∃ v,cmpZ (n*e) (m*d)=v:=⟨_,rfl⟩
 have Hv:=hd_ hv
 rw[hv]
 unfold Gives
 have Hm1:Hid (∀ W,Below ((w.alloc (.cells #[.string (itx n),.string (dec d)] 42)).alloc (.cells #[.string (itx m),.string (dec e)] 42)).heap.size ((w.alloc (.cells #[.string (itx n),.string (dec d)] 42)).alloc (.cells #[.string (itx m),.string (dec e)] 42)) W→∀ d' os,Calls Tryz.prog 115 #[.string (itx n),.string (dec e)] (Go.Sort.grow (redrawn W d') os) fun e' w'=>e' = .returned (.string (itx (n*e)))∧∃ p:Regrown,w'=Go.Sort.grow (redrawn W p.d) p.os):=fun W hW d' os=>by
  have:=mulz_any (Go.Sort.grow (redrawn W d') os) n (e:Int) hn (show Num _ from he) hne ((HL.out.below hW).below (below_regrown W d' os))
  rw[itx_nat] at this
  exact Calls.regrown_of this
 have Hm2:Hid (∀ W,Below ((w.alloc (.cells #[.string (itx n),.string (dec d)] 42)).alloc (.cells #[.string (itx m),.string (dec e)] 42)).heap.size ((w.alloc (.cells #[.string (itx n),.string (dec d)] 42)).alloc (.cells #[.string (itx m),.string (dec e)] 42)) W→∀ d' os,Calls Tryz.prog 115 #[.string (itx m),.string (dec d)] (Go.Sort.grow (redrawn W d') os) fun e' w'=>e' = .returned (.string (itx (m*d)))∧∃ p:Regrown,w'=Go.Sort.grow (redrawn W p.d) p.os):=fun W hW d' os=>by
  have:=mulz_any (Go.Sort.grow (redrawn W d') os) m (d:Int) hm (show Num _ from hd) hmd ((HL.out.below hW).below (below_regrown W d' os))
  rw[itx_nat] at this
  exact Calls.regrown_of this
 have Hm3:Hid (∀ W d' os,Calls Tryz.prog 114 #[.string (itx (n*e)),.string (itx (m*d))] (Go.Sort.grow (redrawn W d') os) fun e' w'=>e' = .returned (.int .i64 v)∧∃ p:Regrown,w'=Go.Sort.grow (redrawn W p.d) p.os):=fun W d' os=>by
  have:=comparez_any (Go.Sort.grow (redrawn W d') os) (n*e) (m*d) hne hmd
  rw[hv] at this
  exact Calls.regrown_of this
 have Hm4:Hid (d=e→∀ W,Gives Tryz.prog 114 #[.string (itx n),.string (itx m)] W (.int .i64 v)):=fun h W=>by
  have:=comparez_any W n m hn hm
  rw[← cmpZ_mul hd0,show ((d:Nat):Int)=d from rfl] at this
  subst h
  rw[hv] at this
  exact this
 clear hv
 by_cases h1:(itx n).size≤9∧(dec d).size≤9
 ·have Hc1:=hd_ (both_small n d hn hd h1)
  by_cases h2:(itx m).size≤9∧(dec e).size≤9
  ·have Hc2:=hd_ (both_small m e hm he h2)
   have q1:=itx_lim n 9 (by decide) h1.1
   have q2:=itx_lim m 9 (by decide) h2.1
   have q3:=(dec_length d 9 (by decide)).1 (by rw[← dec_size];exact h1.2)
   have q4:=(dec_length e 9 (by decide)).1 (by rw[← dec_size];exact h2.2)
   have q5:(n*e).natAbs≤1000000000*1000000000:=by rw[Int.natAbs_mul];exact Nat.mul_le_mul (by omega) (by omega)
   have q7:(m*d).natAbs≤1000000000*1000000000:=by rw[Int.natAbs_mul];exact Nat.mul_le_mul (by omega) (by omega)
   have hw1:IntKind.i64.wrap (n*e)=n*e:=iw_ _ (by omega)
   have hw3:IntKind.i64.wrap (m*d)=m*d:=iw_ _ (by omega)
   have hlow:n*e<m*d→v = -1:=fun h=>by rw[← Hv.out];unfold cmpZ;rw[if_pos h]
   have hhigh:m*d<n*e→v=1:=fun h=>by rw[← Hv.out];unfold cmpZ;rw[if_neg (by omega),if_neg (by omega)]
   have hsame:n*e=m*d→v=0:=fun h=>by rw[← Hv.out];unfold cmpZ;rw[if_neg (by omega),if_pos h]
   unfold fv at Hc1 Hc2 ⊢
   have Hlow:=hd_ hlow
   have Hhigh:=hd_ hhigh
   have Hsame:=hd_ hsame
   clear Hm1 Hm2 Hm3 Hm4 q1 q2 q3 q4 q5 q7 h1 h2 hne hmd hlow hhigh hsame Hv
   go_enter Tryz.func43,Tryz.ntmps43
   obtain⟨k0,k1,-,-⟩:=two_cells H3.out.fa
   obtain⟨k2,k3,-,-⟩:=two_cells H3.out.fb
   go_wp2_with fail
   generalize (w.alloc (.cells #[.string (itx n),.string (dec d)] 42)).alloc (.cells #[.string (itx m),.string (dec e)] 42)=W0 at *
   clear k0 k1 k2 k3
   refine cm_ (Hc1.out _) ?_
   rintro e_ w1 ⟨rfl,hb1⟩
   have Hb1:=hd_ hb1
   clear hb1 Hc1
   obtain⟨k0,k1,-,-⟩:=two_cells (H3.out.next Hb1.out).fa
   obtain⟨k2,k3,-,-⟩:=two_cells (H3.out.next Hb1.out).fb
   go_wp2_with fail
   clear k0 k1 k2 k3
   refine cm_ (Hc2.out _) ?_
   rintro e_ w2 ⟨rfl,hb2⟩
   have Hb2:=hd_ (Hb1.out.trans (hb2.mono Hb1.out.size))
   clear hb2 Hb1 Hc2
   have B5:=hd_ (H3.out.bel.trans (Hb2.out.mono H3.out.bel.size))
   by_cases c1:n*(e:Int)<m*(d:Int)
   ·go_wp2_with fail
    go_ret
    exact⟨by rw[Hlow.out c1];rfl,B5.out⟩
   ·by_cases c2:m*(d:Int)<n*(e:Int)
    ·go_wp2_with fail
     go_ret
     exact⟨by rw[Hhigh.out c2];rfl,B5.out⟩
    ·go_wp2_with fail
     go_ret
     exact⟨by rw[Hsame.out (by omega)];rfl,B5.out⟩
  ·obtain⟨x,y,hc2⟩:=both_large m e hm he h2
   have Hc2:=hd_ hc2
   unfold fv at Hc1 Hc2 ⊢
   clear h1 h2 hc2 hne hmd
   go_enter Tryz.func43,Tryz.ntmps43
   obtain⟨k0,k1,-,-⟩:=two_cells H3.out.fa
   obtain⟨k2,k3,-,-⟩:=two_cells H3.out.fb
   go_wp2_with fail
   generalize (w.alloc (.cells #[.string (itx n),.string (dec d)] 42)).alloc (.cells #[.string (itx m),.string (dec e)] 42)=W0 at *
   clear k0 k1 k2 k3
   refine cm_ (Hc1.out _) ?_
   rintro e_ w1 ⟨rfl,hb1⟩
   have Hb1:=hd_ hb1
   clear hb1 Hc1
   obtain⟨k0,k1,-,-⟩:=two_cells (H3.out.next Hb1.out).fa
   obtain⟨k2,k3,-,-⟩:=two_cells (H3.out.next Hb1.out).fb
   go_wp2_with fail
   clear k0 k1 k2 k3
   refine cm_ (Hc2.out _) ?_
   rintro e_ w2 ⟨rfl,hb2⟩
   have Hb2:=hd_ (Hb1.out.trans (hb2.mono Hb1.out.size))
   clear hb2 Hb1 Hc2
   by_cases hde:d=e
   ·have Hq:=hd_ (Hm4.out hde)
    obtain⟨k0,k1,-,-⟩:=two_cells (H3.out.next Hb2.out).fa
    obtain⟨k2,k3,-,-⟩:=two_cells (H3.out.next Hb2.out).fb
    subst hde
    clear Hm1 Hm2 Hm3 Hm4
    go_wp2_with fail
    clear k0 k1 k2 k3
    refine cm_ (Hq.out _) ?_
    rintro e_ w5 ⟨rfl,hb_⟩
    have B5:=hd_ (H3.out.bel.trans ((Hb2.out.trans (hb_.mono Hb2.out.size)).mono H3.out.bel.size))
    clear hb_ Hq
    go_wp2_with fail
    go_ret
    exact⟨rfl,B5.out⟩
   ·have hq:=dec_ne hde
    obtain⟨k0,k1,-,-⟩:=two_cells (H3.out.next Hb2.out).fa
    obtain⟨k2,k3,-,-⟩:=two_cells (H3.out.next Hb2.out).fb
    have q0:=cell_regrown k0
    have q1:=cell_regrown k1
    have q2:=cell_regrown k2
    have q3:=cell_regrown k3
    have hM1:=Hm1.out w2 Hb2.out
    have hM2:=Hm2.out w2 Hb2.out
    have hM3:=Hm3.out w2
    clear Hm1 Hm2 Hm3 Hm4 hde
    go_wp2_with fail
    clear k0 k1 k2 k3
    refine wp_region_quiet_below (by kernel_rfl) (by kernel_rfl) ?_
    repeat (first | go_big_quiet_step (first | with_reducible exact hM1 _ _ | with_reducible exact hM2 _ _ | with_reducible exact hM3 _ _) | quiet_step (first | with_reducible exact hM1 _ _ | with_reducible exact hM2 _ _ | with_reducible exact hM3 _ _))
    refine wpQuiet_nil ?_
    intro w8 hw8
    obtain⟨⟨dq,osq⟩,rfl⟩:=hw8
    have B5:=hd_ (H3.out.bel.trans ((Hb2.out.trans ((below_regrown w2 dq osq).mono Hb2.out.size)).mono H3.out.bel.size))
    generalize Go.Sort.grow (redrawn w2 dq) osq=w8 at *
    clear hM1 hM2 hM3 q0 q1 q2 q3
    go_wp2
    go_ret
    exact⟨rfl,B5.out⟩
 ·obtain⟨x,y,hc1⟩:=both_large n d hn hd h1
  have Hc1:=hd_ hc1
  unfold fv at Hc1 ⊢
  clear h1 hc1 hne hmd
  go_enter Tryz.func43,Tryz.ntmps43
  obtain⟨k0,k1,-,-⟩:=two_cells H3.out.fa
  obtain⟨k2,k3,-,-⟩:=two_cells H3.out.fb
  go_wp2_with fail
  generalize (w.alloc (.cells #[.string (itx n),.string (dec d)] 42)).alloc (.cells #[.string (itx m),.string (dec e)] 42)=W0 at *
  clear k0 k1 k2 k3
  refine cm_ (Hc1.out _) ?_
  rintro e_ w1 ⟨rfl,hb1⟩
  have Hb1:=hd_ hb1
  clear hb1 Hc1
  by_cases hde:d=e
  ·have Hq:=hd_ (Hm4.out hde)
   obtain⟨k0,k1,-,-⟩:=two_cells (H3.out.next Hb1.out).fa
   obtain⟨k2,k3,-,-⟩:=two_cells (H3.out.next Hb1.out).fb
   subst hde
   clear Hm1 Hm2 Hm3 Hm4
   go_wp2_with fail
   clear k0 k1 k2 k3
   refine cm_ (Hq.out _) ?_
   rintro e_ w5 ⟨rfl,hb_⟩
   have B5:=hd_ (H3.out.bel.trans ((Hb1.out.trans (hb_.mono Hb1.out.size)).mono H3.out.bel.size))
   clear hb_ Hq
   go_wp2_with fail
   go_ret
   exact⟨rfl,B5.out⟩
  ·have hq:=dec_ne hde
   obtain⟨k0,k1,-,-⟩:=two_cells (H3.out.next Hb1.out).fa
   obtain⟨k2,k3,-,-⟩:=two_cells (H3.out.next Hb1.out).fb
   have q0:=cell_regrown k0
   have q1:=cell_regrown k1
   have q2:=cell_regrown k2
   have q3:=cell_regrown k3
   have hM1:=Hm1.out w1 Hb1.out
   have hM2:=Hm2.out w1 Hb1.out
   have hM3:=Hm3.out w1
   clear Hm1 Hm2 Hm3 Hm4 hde
   go_wp2_with fail
   clear k0 k1 k2 k3
   refine wp_region_quiet_below (by kernel_rfl) (by kernel_rfl) ?_
   repeat (first | go_big_quiet_step (first | with_reducible exact hM1 _ _ | with_reducible exact hM2 _ _ | with_reducible exact hM3 _ _) | quiet_step (first | with_reducible exact hM1 _ _ | with_reducible exact hM2 _ _ | with_reducible exact hM3 _ _))
   refine wpQuiet_nil ?_
   intro w8 hw8
   obtain⟨⟨dq,osq⟩,rfl⟩:=hw8
   have B5:=hd_ (H3.out.bel.trans ((Hb1.out.trans ((below_regrown w1 dq osq).mono Hb1.out.size)).mono H3.out.bel.size))
   generalize Go.Sort.grow (redrawn w1 dq) osq=w8 at *
   clear hM1 hM2 hM3 q0 q1 q2 q3
   go_wp2
   go_ret
   exact⟨rfl,B5.out⟩
def minR (a b:Rat):Rat:=if b<a then b else a
def maxR (a b:Rat):Rat:=if a<b then b else a
theorem compareR(w:World)(a b:Rat)(D E:Nat)(ha:Sm D a)(hb:Sm E b)(h6:D+E+2≤1000000)(L:Laid w):
  Gives Tryz.prog 43 #[fr a,fr b] w (.int .i64 (cmpZ (a.num*b.den) (b.num*a.den))):=by
 have p1:=ha.pos
 have p2:=hb.pos
 have h1:(a.num*(b.den:Int)).natAbs<10^(D+E):=by rw[Int.natAbs_mul,Int.natAbs_natCast];exact pow_ten_mul ha.1 hb.2
 have h2:(b.num*(a.den:Int)).natAbs<10^(D+E):=by rw[Int.natAbs_mul,Int.natAbs_natCast,Nat.add_comm];exact pow_ten_mul hb.1 ha.2
 exact compare_frac w a.num b.num a.den b.den (num_pow ha.1 p1 (by omega)) (num_pow hb.1 p2 (by omega)) (num_pow ha.2 p1 (by omega)) (num_pow hb.2 p2 (by omega)) a.den_pos
  (num_pow h1 (by omega) (by omega)) (num_pow h2 (by omega) (by omega)) L
theorem lt_num(a b:Rat):a<b↔a.num*b.den<b.num*a.den:=Rat.lt_iff a b
theorem cmpZ_lt(a b:Rat):(cmpZ (a.num*b.den) (b.num*a.den)<0↔a<b)∧(0<cmpZ (a.num*b.den) (b.num*a.den)↔b<a):=by
 rw[lt_num,lt_num]
 unfold cmpZ
 split
 ·constructor<;>omega
 ·split
  ·constructor<;>omega
  ·constructor<;>omega
theorem minR_ok(w:World)(a b:Rat)(D E:Nat)(ha:Sm D a)(hb:Sm E b)(h6:D+E+2≤1000000)(L:Laid w):
  Gives Tryz.prog 111 #[fr a,fr b] w (fr (minR a b)):=by
 obtain⟨v,hv⟩:∃ v,cmpZ (b.num*a.den) (a.num*b.den)=v:=⟨_,rfl⟩
 have H3:=hd_ (Three.mk' w (itx a.num) (dec a.den) (itx b.num) (dec b.den))
 have HC:=hd_ (fun W hW=>compareR W b a E D hb ha (by omega) (L.below (H3.out.next (W:=W) hW).bel))
 rw[hv] at HC
 have hlt:=(cmpZ_lt b a).1
 rw[hv] at hlt
 have Hmin:Hid (minR a b=if v<0 then b else a):=by
  show _=_
  unfold minR
  by_cases h:v<0
  ·rw[if_pos h,if_pos (hlt.1 h)]
  ·rw[if_neg h,if_neg fun hc=>h (hlt.2 hc)]
 clear hv hlt L ha hb h6
 unfold Gives
 unfold fr fv at HC ⊢
 go_enter Tryz.func111,Tryz.ntmps111
 obtain⟨k0,k1,-,-⟩:=two_cells H3.out.fa
 obtain⟨k2,k3,-,-⟩:=two_cells H3.out.fb
 go_wp2_with fail
 generalize ((w.alloc (.cells #[.string (itx a.num),.string (dec a.den)] 42)).alloc (.cells #[.string (itx b.num),.string (dec b.den)] 42)).alloc (.cells #[.string ⟨#[]⟩,.string ⟨#[]⟩] 42)=W0 at *
 clear k0 k1 k2 k3
 refine cm_ (HC.out _ (Below.refl _ _)) ?_
 rintro e w1 ⟨rfl,hb1⟩
 have H4:=hd_ (H3.out.next hb1)
 clear hb1 HC H3
 obtain⟨k0,k1,-,-⟩:=two_cells H4.out.fa
 obtain⟨k2,k3,-,-⟩:=two_cells H4.out.fb
 obtain⟨k4,k5,f4,f5⟩:=two_cells H4.out.fr
 have Hbw:=hd_ H4.out.bel
 clear H4
 by_cases c1:v<0
 ·have hm:minR a b=b:=by rw[Hmin.out,if_pos c1]
  have Hm:=hd_ hm
  clear hm Hmin
  go_wp2
  obtain⟨c0,c1,hb3⟩:=two_stored (B:=w.heap.size) (.string (itx b.num)) (.string (dec b.den)) k4 k5 (by omega) Hbw.out
  generalize (w1.setCell ⟨w.heap.size+1+1,0,none⟩ (.string (itx b.num))).setCell ⟨w.heap.size+1+1,1,none⟩ (.string (dec b.den))=w9 at *
  exact bodyPost_ret (v := .agg #[.string (itx b.num),.string (dec b.den)]) (by simp[results,Tryz.results111,go_sem,c0,c1]) rfl ⟨by rw[Hm.out],hb3⟩
 ·have hm:minR a b=a:=by rw[Hmin.out,if_neg c1]
  have Hm:=hd_ hm
  clear hm Hmin
  go_wp2
  obtain⟨c0,c1,hb3⟩:=two_stored (B:=w.heap.size) (.string (itx a.num)) (.string (dec a.den)) k4 k5 (by omega) Hbw.out
  generalize (w1.setCell ⟨w.heap.size+1+1,0,none⟩ (.string (itx a.num))).setCell ⟨w.heap.size+1+1,1,none⟩ (.string (dec a.den))=w9 at *
  exact bodyPost_ret (v := .agg #[.string (itx a.num),.string (dec a.den)]) (by simp[results,Tryz.results111,go_sem,c0,c1]) rfl ⟨by rw[Hm.out],hb3⟩
theorem maxR_ok(w:World)(a b:Rat)(D E:Nat)(ha:Sm D a)(hb:Sm E b)(h6:D+E+2≤1000000)(L:Laid w):
  Gives Tryz.prog 112 #[fr a,fr b] w (fr (maxR a b)):=by
 obtain⟨v,hv⟩:∃ v,cmpZ (b.num*a.den) (a.num*b.den)=v:=⟨_,rfl⟩
 have H3:=hd_ (Three.mk' w (itx a.num) (dec a.den) (itx b.num) (dec b.den))
 have HC:=hd_ (fun W hW=>compareR W b a E D hb ha (by omega) (L.below (H3.out.next (W:=W) hW).bel))
 rw[hv] at HC
 have hlt:=(cmpZ_lt b a).2
 rw[hv] at hlt
 have Hmin:Hid (maxR a b=if 0<v then b else a):=by
  show _=_
  unfold maxR
  by_cases h:0<v
  ·rw[if_pos h,if_pos (hlt.1 h)]
  ·rw[if_neg h,if_neg fun hc=>h (hlt.2 hc)]
 clear hv hlt L ha hb h6
 unfold Gives
 unfold fr fv at HC ⊢
 go_enter Tryz.func112,Tryz.ntmps112
 obtain⟨k0,k1,-,-⟩:=two_cells H3.out.fa
 obtain⟨k2,k3,-,-⟩:=two_cells H3.out.fb
 go_wp2_with fail
 generalize ((w.alloc (.cells #[.string (itx a.num),.string (dec a.den)] 42)).alloc (.cells #[.string (itx b.num),.string (dec b.den)] 42)).alloc (.cells #[.string ⟨#[]⟩,.string ⟨#[]⟩] 42)=W0 at *
 clear k0 k1 k2 k3
 refine cm_ (HC.out _ (Below.refl _ _)) ?_
 rintro e w1 ⟨rfl,hb1⟩
 have H4:=hd_ (H3.out.next hb1)
 clear hb1 HC H3
 obtain⟨k0,k1,-,-⟩:=two_cells H4.out.fa
 obtain⟨k2,k3,-,-⟩:=two_cells H4.out.fb
 obtain⟨k4,k5,f4,f5⟩:=two_cells H4.out.fr
 have Hbw:=hd_ H4.out.bel
 clear H4
 by_cases c1:0<v
 ·have hm:maxR a b=b:=by rw[Hmin.out,if_pos c1]
  have Hm:=hd_ hm
  clear hm Hmin
  go_wp2
  obtain⟨c0,c1,hb3⟩:=two_stored (B:=w.heap.size) (.string (itx b.num)) (.string (dec b.den)) k4 k5 (by omega) Hbw.out
  generalize (w1.setCell ⟨w.heap.size+1+1,0,none⟩ (.string (itx b.num))).setCell ⟨w.heap.size+1+1,1,none⟩ (.string (dec b.den))=w9 at *
  exact bodyPost_ret (v := .agg #[.string (itx b.num),.string (dec b.den)]) (by simp[results,Tryz.results112,go_sem,c0,c1]) rfl ⟨by rw[Hm.out],hb3⟩
 ·have hm:maxR a b=a:=by rw[Hmin.out,if_neg c1]
  have Hm:=hd_ hm
  clear hm Hmin
  go_wp2
  obtain⟨c0,c1,hb3⟩:=two_stored (B:=w.heap.size) (.string (itx a.num)) (.string (dec a.den)) k4 k5 (by omega) Hbw.out
  generalize (w1.setCell ⟨w.heap.size+1+1,0,none⟩ (.string (itx a.num))).setCell ⟨w.heap.size+1+1,1,none⟩ (.string (dec a.den))=w9 at *
  exact bodyPost_ret (v := .agg #[.string (itx a.num),.string (dec a.den)]) (by simp[results,Tryz.results112,go_sem,c0,c1]) rfl ⟨by rw[Hm.out],hb3⟩
def nearR (a:Rat):Int:=(a+1/2).floor
theorem half_sm:Sm 1 (1/2:Rat):=⟨by decide +kernel,by decide +kernel⟩
theorem half_fr:fr (1/2:Rat) = .agg #[.string ⟨#[49]⟩,.string ⟨#[50]⟩]:=by
 have h1:(1/2:Rat).num=1:=by decide +kernel
 have h2:(1/2:Rat).den=2:=by decide +kernel
 unfold fr fv
 rw[h1,h2,show itx 1=dec 1 from itx_nat 1,dec_one,dec_two]
theorem nearR_ok(w:World)(a:Rat)(D:Nat)(ha:Sm D a)(h6:D+5≤1000000)(L:Laid w):
  Gives Tryz.prog 46 #[fr a] w (.string (itx (nearR a))):=by
 have Hb0:=hd_ ((Below.refl w.heap.size w).alloc nr_ (.cells #[.string (itx a.num),.string (dec a.den)] 42))
 have Hnew:Hid ((w.alloc (.cells #[.string (itx a.num),.string (dec a.den)] 42)).heap[w.heap.size]?=some (.cells #[.string (itx a.num),.string (dec a.den)] 42 (0,0))):=heap_alloc_new w _
 have HA:=hd_ (addR (w.alloc (.cells #[.string (itx a.num),.string (dec a.den)] 42)) a (1/2) D 1 ha half_sm (by omega) (L.below Hb0.out))
 rw[half_fr] at HA
 have HF:=hd_ (fun W (hW:Below w.heap.size w W)=>floorR W (a+1/2) (D+1+1) (ha.add half_sm) (by omega) (L.below hW))
 clear L ha h6
 unfold Gives
 unfold nearR
 generalize a+1/2=s at *
 unfold fr fv at HA HF ⊢
 go_enter Tryz.func46,Tryz.ntmps46
 obtain⟨k0,k1,-,-⟩:=two_cells Hnew.out
 go_wp2_with fail
 generalize w.alloc (.cells #[.string (itx a.num),.string (dec a.den)] 42)=W0 at *
 clear k0 k1
 refine cm_ HA.out ?_
 rintro e w1 ⟨rfl,hb1⟩
 have B1:=hd_ (Hb0.out.trans (hb1.mono Hb0.out.size))
 clear hb1 HA
 go_wp2_with fail
 refine cm_ (HF.out _ B1.out) ?_
 rintro e w2 ⟨rfl,hb2⟩
 have B2:=hd_ (B1.out.trans (hb2.mono B1.out.size))
 clear hb2 HF
 go_wp2_with fail
 go_ret
 exact⟨rfl,B2.out⟩
theorem isLg_twice{p N a b:Nat}(h1:IsLg p N a)(h2:IsLg p (2*N) b):b=2*a∨b=2*a+1:=by
 have hP:p^(2*N)=p^N*p^N:=by rw[Nat.two_mul,Nat.pow_add]
 have e1:2^(2*a)≤p^(2*N):=by
  rw[hP,Nat.two_mul,Nat.pow_add];exact Nat.mul_le_mul h1.1 h1.1
 have e2:p^(2*N)<2^(2*a+2):=by
  rw[hP,show 2*a+2=(a+1)+(a+1) by omega,Nat.pow_add];exact Nat.mul_lt_mul'' h1.2 h1.2
 have f1:=(Nat.pow_lt_pow_iff_right (by decide)).1 (Nat.lt_of_le_of_lt e1 h2.2)
 have f2:=(Nat.pow_lt_pow_iff_right (by decide)).1 (Nat.lt_of_le_of_lt h2.1 e2)
 omega
theorem lgN_step{p n:Nat}(hp:p∈oddP)(hn:n+1≤1056):lgN p (n+1)=2*lgN p n∨lgN p (n+1)=2*lgN p n+1:=by
 have h2:=lgN_is hp hn
 rw[Nat.pow_succ,Nat.mul_comm] at h2
 exact isLg_twice (lgN_is hp (by omega)) h2
theorem lgN_cut{p n:Nat}(hp:p=2∨p∈oddP):∀ d,n+d≤1056→lgN p (n+d)/2^d=lgN p n
 | 0,_=>by simp
 | d+1,h=>by
  have ih:=lgN_cut hp d (n:=n) (by omega)
  rw[← Nat.add_assoc,Nat.pow_succ,Nat.mul_comm,← Nat.div_div_eq_div_mul]
  have e:lgN p (n+d+1)/2=lgN p (n+d):=by
   rcases hp with rfl|hp
   ·rw[show ((2:Nat):Int)=2 from rfl,lgN_two,lgN_two,Nat.pow_succ];omega
   ·rcases lgN_step hp (n:=n+d) (by omega) with e | e<;>rw[e]<;>omega
  rw[e,ih]
def xE (p:Int) (n:Nat):Rat:=if p=2 then 1 else mkRat ((lgN p n:Nat):Int) (2^n)
def yE (p:Int) (n:Nat):Rat:=if p=2 then 1 else mkRat ((lgN p n+1:Nat):Int) (2^n)
def loE (n:Nat):List Int→List Rat→Rat
 | p::ps,c::l=>minR (c*xE p n) (c*yE p n)+loE n ps l
 | _,_=>0
def hiE (n:Nat):List Int→List Rat→Rat
 | p::ps,c::l=>maxR (c*xE p n) (c*yE p n)+hiE n ps l
 | _,_=>0
theorem two_pow_rat(n:Nat):((2^n:Nat):Rat)=2^n:=by
 rw[LN.natCast_pow];rfl
theorem two_pow_pos_rat(n:Nat):(0:Rat)<2^n:=Rat.pow_pos (by decide)
theorem xE_mul(p:Int)(n:Nat):xE p n*2^n=((lgN p n:Nat):Rat):=by
 unfold xE
 by_cases h:p=2
 ·rw[if_pos h,h,lgN_two,two_pow_rat,Rat.one_mul]
 ·rw[if_neg h,← two_pow_rat,← Rat.intCast_natCast (lgN p n),mkRat_mul_den _ _ (Nat.two_pow_pos n)]
theorem yE_mul(p:Int)(n:Nat):yE p n*2^n=((LN.hiL (lf n) p:Nat):Rat):=by
 unfold yE LN.hiL
 by_cases h:p=2
 ·rw[if_pos h,if_pos h,h]
  unfold lf
  rw[lgN_two,two_pow_rat,Rat.one_mul]
 ·rw[if_neg h,if_neg h]
  unfold lf
  rw[← two_pow_rat,← Rat.intCast_natCast (lgN p n+1),mkRat_mul_den _ _ (Nat.two_pow_pos n)]
theorem le_of_mul_two{a b:Rat}{n:Nat}(h:a*2^n≤b*2^n):a≤b:=Rat.le_of_mul_le_mul_right h (two_pow_pos_rat n)
theorem xE_le_yE(p:Int)(n:Nat):xE p n≤yE p n:=by
 refine le_of_mul_two (n:=n) ?_
 rw[xE_mul,yE_mul]
 refine Rat.natCast_le_natCast.2 ?_
 unfold LN.hiL lf
 split<;>omega
theorem min_neg{c x y:Rat}(h:x≤y)(hc:c<0):minR (c*x) (c*y)=c*y∧maxR (c*x) (c*y)=c*x:=by
 have h1:c*y≤c*x:=by
  have:=Rat.mul_le_mul_of_nonneg_left h (c := -c) (by grind)
  grind
 unfold minR maxR
 refine⟨?_,?_⟩
 ·split
  ·rfl
  ·grind
 ·split
  ·grind
  ·rfl
theorem min_pos{c x y:Rat}(h:x≤y)(hc:0≤c):minR (c*x) (c*y)=c*x∧maxR (c*x) (c*y)=c*y:=by
 have h1:c*x≤c*y:=Rat.mul_le_mul_of_nonneg_left h hc
 unfold minR maxR
 refine⟨?_,?_⟩
 ·split
  ·grind
  ·rfl
 ·split
  ·rfl
  ·grind
theorem tlistE_cons(D:Nat)(p:Int)(ps:List Int)(c:Rat)(l:List Rat):tlist D (p::ps) (c::l)=if c.num=0 then tlist D ps l else (p,LN.ex D c)::tlist D ps l:=by
 unfold tlist LN.ex
 rw[List.zip_cons_cons,List.filterMap_cons]
 by_cases h:c.num=0
 ·simp[h]
 ·simp[h]
theorem eLo_cons(f:Int→Nat)(x:Int×Int)(l:List (Int×Int)):LN.eLo f (x::l)=(if x.2<0 then x.2*(LN.hiL f x.1:Int) else x.2*(f x.1:Int))+LN.eLo f l:=by
 unfold LN.eLo;rw[List.map_cons,List.sum_cons]
theorem eHi_cons(f:Int→Nat)(x:Int×Int)(l:List (Int×Int)):LN.eHi f (x::l)=(if x.2<0 then x.2*(f x.1:Int) else x.2*(LN.hiL f x.1:Int))+LN.eHi f l:=by
 unfold LN.eHi;rw[List.map_cons,List.sum_cons]
theorem ends_rat{D:Nat}(hD:0<D)(n:Nat):∀ (ps:List Int) (l:List Rat),(∀ q∈l,q.den ∣ D) →
  ((LN.eLo (lf n) (tlist D ps l):Int):Rat)=loE n ps l*D*2^n∧((LN.eHi (lf n) (tlist D ps l):Int):Rat)=hiE n ps l*D*2^n
 | [],_,_=>by
  simp[tlist,LN.eLo,LN.eHi,loE,hiE,Rat.zero_mul]
 | _::_,[],_=>by
  simp[tlist,LN.eLo,LN.eHi,loE,hiE,Rat.zero_mul]
 | p::ps,c::l,h=>by
  obtain⟨i1,i2⟩:=ends_rat hD n ps l fun q hq=>h q (List.mem_cons_of_mem _ hq)
  have hc:=LN.ex_eq (h c List.mem_cons_self)
  have hx:xE p n*2^n=((lf n p:Nat):Rat):=xE_mul p n
  have hy:=yE_mul p n
  have hxy:=xE_le_yE p n
  rw[tlistE_cons]
  simp only[loE,hiE]
  by_cases h0:c.num=0
  ·rw[if_pos h0,i1,i2]
   have c0:c=0:=Rat.num_eq_zero.1 h0
   obtain⟨m1,m2⟩:=min_pos hxy (show (0:Rat)≤c by rw[c0];decide)
   rw[m1,m2,c0,Rat.zero_mul,Rat.zero_mul,Rat.zero_add,Rat.zero_add]
   exact⟨rfl,rfl⟩
  ·rw[if_neg h0,eLo_cons,eHi_cons]
   dsimp only
   have hDr:(0:Rat)<(D:Rat):=Rat.natCast_pos.2 hD
   by_cases hn:LN.ex D c<0
   ·have cn:c<0:=by
     have:((LN.ex D c:Int):Rat)<0:=by rw[← Rat.intCast_zero];exact Rat.intCast_lt_intCast.2 hn
     rw[hc] at this
     refine Rat.not_le.1 fun h=>?_
     have:=Rat.mul_nonneg h (Rat.le_of_lt hDr)
     grind
    obtain⟨m1,m2⟩:=min_neg hxy cn
    rw[if_pos hn,if_pos hn,m1,m2,Rat.intCast_add,Rat.intCast_add,i1,i2,Rat.intCast_mul,Rat.intCast_mul,hc,Rat.intCast_natCast,Rat.intCast_natCast,← hx,← hy]
    constructor<;>grind
   ·have cp:0≤c:=by
     refine Rat.not_lt.1 fun h=>hn ?_
     have h1:c*D<0:=by
      have:=Rat.mul_pos (show (0:Rat) < -c by grind) hDr
      grind
     rw[← hc,← Rat.intCast_zero] at h1
     exact Rat.intCast_lt_intCast.1 h1
    obtain⟨m1,m2⟩:=min_pos hxy cp
    rw[if_neg hn,if_neg hn,m1,m2,Rat.intCast_add,Rat.intCast_add,i1,i2,Rat.intCast_mul,Rat.intCast_mul,hc,Rat.intCast_natCast,Rat.intCast_natCast,← hx,← hy]
    constructor<;>grind
theorem xE_up{p n:Nat}(hp:p=2∨p∈oddP)(hn:n+1≤1056):xE p n≤xE p (n+1)∧yE p (n+1)≤yE p n:=by
 rcases hp with rfl|hp
 ·unfold xE yE
  rw[show ((2:Nat):Int)=2 from rfl]
  simp only[if_true]
  exact⟨Rat.le_refl,Rat.le_refl⟩
 ·have h2:=(oddP_odd hp).2.1
  have hne:¬ ((p:Nat):Int)=2:=by have:=(oddP_odd hp).1;omega
  have e1:=xE_mul p n
  have e2:=yE_mul p n
  have e3:=xE_mul p (n+1)
  have e4:=yE_mul p (n+1)
  unfold LN.hiL lf at e2 e4
  rw[if_neg hne] at e2 e4
  have hs:(2:Rat)^(n+1)=2^n*2:=Rat.pow_succ ..
  constructor
  ·refine le_of_mul_two (n:=n+1) ?_
   rw[e3,hs,← Rat.mul_assoc,e1]
   have h3:((2*lgN p n:Nat):Rat)≤((lgN p (n+1):Nat):Rat):=Rat.natCast_le_natCast.2 (by rcases lgN_step hp hn with e | e<;>omega)
   rw[Rat.natCast_mul] at h3
   have:((2:Nat):Rat)=2:=rfl
   grind
  ·refine le_of_mul_two (n:=n+1) ?_
   rw[e4,hs,← Rat.mul_assoc,e2]
   have h3:((lgN p (n+1)+1:Nat):Rat)≤((2*(lgN p n+1):Nat):Rat):=Rat.natCast_le_natCast.2 (by rcases lgN_step hp hn with e | e<;>omega)
   rw[Rat.natCast_mul] at h3
   have:((2:Nat):Rat)=2:=rfl
   grind
theorem ends_up{n:Nat}(hn:n+1≤1056):∀ (ps:List Int) (l:List Rat),(∀ p∈ps,∃ q:Nat,p=q∧(q=2∨q∈oddP))→loE n ps l≤loE (n+1) ps l∧hiE (n+1) ps l≤hiE n ps l
 | [],_,_=>by simp[loE,hiE]
 | _::_,[],_=>by simp[loE,hiE]
 | p::ps,c::l,h=>by
  obtain⟨i1,i2⟩:=ends_up hn ps l fun q hq=>h q (List.mem_cons_of_mem _ hq)
  obtain⟨q,rfl,hq⟩:=h p List.mem_cons_self
  obtain⟨u1,u2⟩:=xE_up hq hn
  simp only[loE,hiE]
  rcases Decidable.em (c<0) with hc|hc
  ·obtain⟨m1,m2⟩:=min_neg (xE_le_yE q n) hc
   obtain⟨m3,m4⟩:=min_neg (xE_le_yE q (n+1)) hc
   rw[m1,m2,m3,m4]
   have a1:=Rat.mul_le_mul_of_nonneg_left u1 (c := -c) (by grind)
   have a2:=Rat.mul_le_mul_of_nonneg_left u2 (c := -c) (by grind)
   constructor<;>grind
  ·have hc:=Rat.not_lt.1 hc
   obtain⟨m1,m2⟩:=min_pos (xE_le_yE q n) hc
   obtain⟨m3,m4⟩:=min_pos (xE_le_yE q (n+1)) hc
   rw[m1,m2,m3,m4]
   have a1:=Rat.mul_le_mul_of_nonneg_left u1 hc
   have a2:=Rat.mul_le_mul_of_nonneg_left u2 hc
   constructor<;>grind
theorem ends_le(n:Nat):∀ (ps:List Int) (l:List Rat),loE n ps l≤hiE n ps l
 | [],_=>by simp[loE,hiE]
 | _::_,[]=>by simp[loE,hiE]
 | p::ps,c::l=>by
  have ih:=ends_le n ps l
  simp only[loE,hiE]
  have h1:minR (c*xE p n) (c*yE p n)≤maxR (c*xE p n) (c*yE p n):=by
   unfold minR maxR
   split<;>split<;>grind
  grind
theorem ends_ups{n:Nat}{ps:List Int}{l:List Rat}(h:∀ p∈ps,∃ q:Nat,p=q∧(q=2∨q∈oddP)):∀ d,n+d≤1056→loE n ps l≤loE (n+d) ps l∧hiE (n+d) ps l≤hiE n ps l
 | 0,_=>⟨Rat.le_refl,Rat.le_refl⟩
 | d+1,hd=>by
  obtain⟨i1,i2⟩:=ends_ups h (n:=n) (l:=l) d (by omega)
  obtain⟨j1,j2⟩:=ends_up (n:=n+d) (by omega) ps l h
  exact⟨Rat.le_trans i1 j1,Rat.le_trans j2 i2⟩
def decE (n:Nat) (ps:List Int) (l:List Rat):Int:=if 0≤loE n ps l then 1 else if hiE n ps l≤0 then -1 else 0
theorem tlQ_nodup{ps:List Int}{l:List Rat}(h2:ps.Nodup):((tlQ ps l).map Prod.fst).Nodup:=(tlist_fst (tden l) ps l).nodup h2
theorem decE_up{n d:Nat}{ps:List Int}{l:List Rat}(h1:∀ p∈ps,p∈allP)(hd:n+d≤1056)(h:decE n ps l≠0):decE (n+d) ps l≠0:=by
 obtain⟨u1,u2⟩:=ends_ups (n:=n) (ps:=ps) (l:=l) (fun p hp=>allP_pr (h1 p hp)) d hd
 unfold decE at h ⊢
 split
 ·decide
 ·split
  ·decide
  ·rename_i c1 c2
   split at h
   ·rename_i c3
    exact absurd (Rat.le_trans c3 u1) c1
   ·split at h
    ·rename_i c4
     exact absurd (Rat.le_trans u2 c4) c2
    ·exact h
theorem ends_zip(n:Nat):∀ (ps:List Int) (l:List Rat) (p:Int) (c:Rat),ps.length=l.length →
  loE n (ps++[p]) (l++[c])=loE n ps l+minR (c*xE p n) (c*yE p n)∧hiE n (ps++[p]) (l++[c])=hiE n ps l+maxR (c*xE p n) (c*yE p n)
 | [],[],p,c,_=>by
  show _+(0:Rat)=0+_∧_+(0:Rat)=0+_
  rw[Rat.add_zero,Rat.zero_add,Rat.add_zero,Rat.zero_add];exact⟨rfl,rfl⟩
 | [],_::_,_,_,h=>by simp at h
 | _::_,[],_,_,h=>by simp at h
 | q::ps,d::l,p,c,h=>by
  obtain⟨i1,i2⟩:=ends_zip n ps l p c (by simpa using h)
  simp only[List.cons_append,loE,hiE]
  rw[i1,i2,Rat.add_assoc,Rat.add_assoc]
  exact⟨rfl,rfl⟩
theorem ends_take(n:Nat)(ps:List Int)(l:List Rat)(k:Nat)(h:l.length=ps.length)(h1:k<ps.length)(h2:k<l.length):
  loE n (ps.take (k+1)) (l.take (k+1))=loE n (ps.take k) (l.take k)+minR (l[k]*xE ps[k] n) (l[k]*yE ps[k] n) ∧
  hiE n (ps.take (k+1)) (l.take (k+1))=hiE n (ps.take k) (l.take k)+maxR (l[k]*xE ps[k] n) (l[k]*yE ps[k] n):=by
 have e1:ps.take (k+1)=ps.take k++[ps[k]]:=by rw[List.take_add_one,List.getElem?_eq_getElem h1];rfl
 have e2:l.take (k+1)=l.take k++[l[k]]:=by rw[List.take_add_one,List.getElem?_eq_getElem h2];rfl
 rw[e1,e2]
 exact ends_zip n _ _ _ _ (by simp;omega)
theorem ends_skip(n:Nat)(p:Int):minR ((0:Rat)*xE p n) (0*yE p n)=0∧maxR ((0:Rat)*xE p n) (0*yE p n)=0:=by
 rw[Rat.zero_mul,Rat.zero_mul];exact⟨rfl,rfl⟩
theorem minR_sm{D:Nat}{a b:Rat}(ha:Sm D a)(hb:Sm D b):Sm D (minR a b):=by unfold minR;split<;>assumption
theorem maxR_sm{D:Nat}{a b:Rat}(ha:Sm D a)(hb:Sm D b):Sm D (maxR a b):=by unfold maxR;split<;>assumption
theorem two_le_ten(n D:Nat)(h:n≤3*D):2^n≤10^D:=by
 refine Nat.le_trans (Nat.pow_le_pow_right (by decide) h) ?_
 rw[Nat.pow_mul]
 exact Nat.pow_le_pow_left (by decide) D
theorem xE_sm{p:Int}{n:Nat}(hp:∃ q:Nat,p=q∧(q=2∨q∈oddP))(hn:n≤1056):Sm 355 (xE p n)∧Sm 355 (yE p n):=by
 obtain⟨h1,h2⟩:=lf_lt hp hn
 obtain⟨D,hD⟩:∃ D,D=354:=⟨_,rfl⟩
 have e:2^(n+3)≤10^D:=two_le_ten _ _ (by omega)
 have e2:2^n≤10^D:=two_le_ten _ _ (by omega)
 have e3:(10:Nat)^(D+1)=10^D*10:=Nat.pow_succ ..
 have h0:0<(10:Nat)^D:=Nat.pow_pos (by decide)
 have h1':lgN p n<2^(n+3):=h1
 rw[show 355=D+1 by omega]
 unfold xE yE
 by_cases h:p=2
 ·rw[if_pos h,if_pos h]
  have:Sm 1 (1:Rat):=⟨by decide,by decide⟩
  exact⟨this.le (by omega),this.le (by omega)⟩
 ·rw[if_neg h,if_neg h]
  generalize 10^D=T at *
  generalize 2^(n+3)=U at *
  have hz:2^n≠0:=Nat.ne_of_gt (Nat.two_pow_pos n)
  exact⟨Sm.mk' hz (by rw[Int.natAbs_natCast,e3];omega) (by rw[e3];omega),Sm.mk' hz (by rw[Int.natAbs_natCast,e3];omega) (by rw[e3];omega)⟩
theorem ends_sm{D n:Nat}(hn:n≤1056){ps:List Int}{l:List Rat}(hp:∀ p∈ps,∃ q:Nat,p=q∧(q=2∨q∈oddP))(hl:l.length=ps.length)(hs:∀ q∈l,Sm D q):
  ∀ k,k≤ps.length→Sm (1+k*(D+356)) (loE n (ps.take k) (l.take k))∧Sm (1+k*(D+356)) (hiE n (ps.take k) (l.take k))
 | 0,_=>by
  have:Sm 1 (0:Rat):=⟨by decide,by decide⟩
  rw[Nat.zero_mul]
  exact⟨this,this⟩
 | k+1,h=>by
  obtain⟨i1,i2⟩:=ends_sm hn hp hl hs k (by omega)
  obtain⟨e1,e2⟩:=ends_take n ps l k hl (by omega) (by omega)
  obtain⟨s1,s2⟩:=xE_sm (hp _ (List.getElem_mem (show k<ps.length by omega))) hn
  have hc:=hs _ (List.getElem_mem (show k<l.length by omega))
  rw[e1,e2,show 1+(k+1)*(D+356)=1+k*(D+356)+(D+355)+1 by rw[Nat.add_mul];omega]
  exact⟨i1.add (minR_sm (hc.mul s1) (hc.mul s2)),i2.add (maxR_sm (hc.mul s1) (hc.mul s2))⟩
/-! The least number of bits. -/
structure LeastN (T:Nat→Bool) (n:Nat):Prop where
 at_:T n=true
 low:n=0∨T (n-1)=false
 le:n≤1000
theorem up_all{T:Nat→Bool}(hm:∀ n,n<1000→T n=true→T (n+1)=true):∀ d n,n+d≤1000→T n=true→T (n+d)=true
 | 0,_,_,h=>h
 | d+1,n,hd,h=>hm (n+d) (by omega) (up_all hm d n (by omega) h)
theorem LeastN.uniq{T:Nat→Bool}(hm:∀ n,n<1000→T n=true→T (n+1)=true){n m:Nat}(h1:LeastN T n)(h2:LeastN T m):n=m:=by
 have key:∀ a b,LeastN T a→LeastN T b→¬ a<b:=fun a b ha hb hc=>by
  have h3:=up_all hm (b-1-a) a (by have:=hb.le;omega) ha.at_
  rw[show a+(b-1-a)=b-1 by omega] at h3
  rcases hb.low with h4|h4
  ·omega
  ·rw[h3] at h4;cases h4
 have:=key n m h1 h2
 have:=key m n h2 h1
 omega
def lowL (B:Nat) (ps:List Int) (l:List Rat):List ByteArray:=(ps.zip l).map fun x=>if x.2.num=0 then ⟨#[]⟩ else dec (lgN x.1 B)
theorem lowL_length(B:Nat)(ps:List Int)(l:List Rat)(h:l.length=ps.length):(lowL B ps l).length=ps.length:=by
 unfold lowL
 rw[List.length_map,List.length_zip,h,Nat.min_self]
theorem lowL_get(B:Nat)(ps:List Int)(l:List Rat)(h:l.length=ps.length)(k:Nat)(h1:k<ps.length)(h2:k<l.length):(lowL B ps l).getD k ⟨#[]⟩=if l[k].num=0 then ⟨#[]⟩ else dec (lgN ps[k] B):=by
 unfold lowL
 rw[List.getD_eq_getElem?_getD,List.getElem?_map,List.getElem?_eq_getElem (by rw[List.length_zip];omega),List.getElem_zip]
 rfl
structure LgS (w:World) (R:Nat) (ps:List Int) (l:List Rat) (B:Nat) (a0:Option Addr) (c0:Nat) (a1:Option Addr) (c1:Nat) (a2:Option Addr) (c2:Nat):Prop where
 ob:w.heap[R]?=some (.cells #[.slice a0 ps.length c0,.slice a1 ps.length c1,.int .i64 B,.slice a2 ps.length c2] 146 (0,0))
 rp:Rd w a0 (ints ps)
 rl:Rd w a1 (cellsQ l)
 rs:Rd w a2 (strs (lowL B ps l))
theorem LgS.below{w w':World}{R:Nat}{ps:List Int}{l:List Rat}{B:Nat}{a0 a1 a2:Option Addr}{c0 c1 c2:Nat}(h:LgS w R ps l B a0 c0 a1 c1 a2 c2)(hb:Below w.heap.size w w'):LgS w' R ps l B a0 c0 a1 c1 a2 c2 :=
 ⟨by rw[hb.block R (Array.getElem?_eq_some_iff.1 h.ob).1];exact h.ob,h.rp.below hb nr_,h.rl.below hb nr_,h.rs.below hb nr_⟩
def LgAt (w:World) (R:Nat) (ps:List Int) (l:List Rat) (B:Nat):Prop:=∃ a0 c0 a1 c1 a2 c2,LgS w R ps l B a0 c0 a1 c1 a2 c2
theorem LgAt.below{w w':World}{R:Nat}{ps:List Int}{l:List Rat}{B:Nat}(h:LgAt w R ps l B)(hb:Below w.heap.size w w'):LgAt w' R ps l B:=by
 obtain⟨a0,c0,a1,c1,a2,c2,S⟩:=h
 exact⟨a0,c0,a1,c1,a2,c2,S.below hb⟩
theorem four_cells{w:World}{g:Nat}{a b c d:Value}{t:TypeId}(h:w.heap[g]?=some (.cells #[a,b,c,d] t (0,0))):
  w.cell? ⟨g,0,none⟩=some a∧w.cell? ⟨g,1,none⟩=some b∧w.cell? ⟨g,2,none⟩=some c∧w.cell? ⟨g,3,none⟩=some d∧(∀ j,w.frozen? ⟨g,j,none⟩=false):=by
 refine⟨by rw[cell_of_row w g 0 _ t (0,0) h];rfl,by rw[cell_of_row w g 1 _ t (0,0) h];rfl,by rw[cell_of_row w g 2 _ t (0,0) h];rfl,by rw[cell_of_row w g 3 _ t (0,0) h];rfl,fun j=>?_⟩
 simp[World.frozen?,h]
theorem strs_get(l:List ByteArray)(j:Nat)(h:j<l.length):(strs l)[j]?=some (.string (l.getD j ⟨#[]⟩)):=by
 simp[strs,List.getD_eq_getElem?_getD,h]
theorem at_any(w:World)(R:Nat)(ps:List Int)(l:List Rat)(B b k:Nat)(H:LgAt w R ps l B)(hl:l.length=ps.length)(hn:ps.length≤100)(hk:k<ps.length)(hkl:k<l.length)(hp:∃ q:Nat,ps[k]=q∧(q=2∨q∈oddP))(hz:l[k].num≠0)(hb:b≤B)(hB:B≤1000)(L:Laid w):
  Gives Tryz.prog 90 #[.pointer (some ⟨R,0,none⟩),.int .i64 k,.int .i64 b] w (.string (dec (lgN ps[k] b))):=by
 unfold Gives
 obtain⟨a0,c0,a1,c1,a2,c2,S⟩:=H
 obtain⟨k0,k1,k2,k3,-⟩:=four_cells S.ob
 have hlen:=lowL_length B ps l hl
 obtain⟨b2,o2,rfl,hb2,hcell⟩:=S.rs.open (by rw[strs_length,hlen];omega)
 have ct:=hcell k _ (strs_get _ k (by rw[hlen];exact hk))
 rw[lowL_get B ps l hl k hk hkl,if_neg hz] at ct
 obtain⟨q,hq,hq2⟩:=hp
 rw[hq] at ct ⊢
 have hcut:lgN q B/2^(B-b)=lgN q b:=by
  have:=lgN_cut hq2 (B-b) (n:=b) (by omega)
  rwa [show b+(B-b)=B by omega] at this
 have hw:IntKind.i64.wrap ((B:Int)-b)=((B-b:Nat):Int):=by rw[show (B:Int)-b=((B-b:Nat):Int) by omega];exact iw_ _ (by omega)
 have HP:=hd_ (fun W (hW:Below w.heap.size w W)=>power_ok W (B-b) (by omega) (L.below hW))
 have hlt:lgN q B<2^K10:=by
  refine Nat.lt_trans (lgN_le hq2 (by omega)) ?_
  refine Nat.lt_of_lt_of_le (Nat.mul_lt_mul_of_pos_right (show 7<2^3 by decide) (Nat.two_pow_pos B)) ?_
  rw[← Nat.pow_add]
  exact Nat.pow_le_pow_right (by decide) (by rw[k10];omega)
 have HD:=hd_ (fun W (hW:Below w.heap.size w W)=>divD W (lgN q B) (2^(B-b)) K10 (by decide) hlt (Nat.pow_lt_pow_right (by decide) (by rw[k10];omega)) (Nat.two_pow_pos _) (L.below hW))
 rw[hcut] at HD
 have hk':k<100:=by omega
 clear hcut hlt S hlen hcell L hz hl hkl hq2 hq
 generalize dec (lgN q B)=s at *
 generalize dec (lgN q b)=s2 at *
 generalize dec (lgN q B%2^(B-b))=s3 at *
 generalize dec (2^(B-b))=s4 at *
 generalize B-b=m at *
 generalize ps.length=n at *
 have q0:=NW.cell k3
 have q1:=NW.cell k2
 have q2:=NW.cell ct
 have hnon:Nonempty (NW w):=⟨⟨w,Below.refl _ _⟩⟩
 have I:Hid (Below w.heap.size w w.drew):=(Below.refl _ _).drew
 clear k0 k1 k2 k3 ct
 go_enter Tryz.func90,Tryz.ntmps90
 go_wp2_with fail
 refine RP.wp_region_readers 14 [(2,0),(2,1),(2,2),(1,3),(2,4),(2,5),(1,6),(2,7),(2,8),(2,9),(1,10),(2,11),(2,12),(0,13),(0,14),(2,15),(2,16),(2,17),(2,18),(2,19),(2,20),(2,21)] (fun w'=>∃ p:NW w,w'=p.w) (by kernel_rfl) (by kernel_rfl) ?_ ?_
 ·exact⟨⟨_,I.out⟩,rfl⟩
 iterate 3 (refine RP.walkR_any ?_;simp only[dsc_,dz_,tsc_,tz_];go_big_quiet_step (fail);refine wpQuiet_nil ?_)
 iterate 1 (refine RP.walkR_read ?_;simp only[dsc_,dz_,tsc_,tz_];go_big_quiet_step (fail);refine wpQuiet_nil ?_)
 iterate 2 (refine RP.walkR_any ?_;simp only[dsc_,dz_,tsc_,tz_];go_big_quiet_step (fail);refine wpQuiet_nil ?_)
 iterate 1 (refine RP.walkR_read ?_;simp only[dsc_,dz_,tsc_,tz_];go_big_quiet_step (fail);refine wpQuiet_nil ?_)
 iterate 3 (refine RP.walkR_any ?_;simp only[dsc_,dz_,tsc_,tz_];go_big_quiet_step (fail);refine wpQuiet_nil ?_)
 iterate 1 (refine RP.walkR_read ?_;simp only[dsc_,dz_,tsc_,tz_];go_big_quiet_step (fail);refine wpQuiet_nil ?_)
 iterate 2 (refine RP.walkR_any ?_;simp only[dsc_,dz_,tsc_,tz_];go_big_quiet_step (fail);refine wpQuiet_nil ?_)
 clear hnon q0 q1 q2
 refine RP.walkR_move ?_
 simp only[dsc_,dz_,tsc_,tz_]
 go_wp2_with fail
 refine cm_ (HP.out _ I.out) ?_
 rintro e w1 ⟨rfl,hb1⟩
 have I1:Hid (Below w.heap.size w w1):=I.out.trans (hb1.mono I.out.size)
 clear hb1 I HP
 go_wp2_with fail
 refine⟨⟨⟨_,I1.out⟩,rfl⟩,?_⟩
 refine RP.walkR_move ?_
 simp only[dsc_,dz_,tsc_,tz_]
 go_wp2_with fail
 refine cm_ (HD.out _ I1.out) ?_
 rintro e w2 ⟨rfl,hb1⟩
 have I2:Hid (Below w.heap.size w w2):=I1.out.trans (hb1.mono I1.out.size)
 clear hb1 I1 HD
 go_wp2_with fail
 iterate 7 (refine RP.walkR_any ?_;simp only[dsc_,dz_,tsc_,tz_];go_big_quiet_step (fail);refine wpQuiet_nil ?_)
 simp only[RP.walkR]
 go_wp2_with fail
 go_ret
 exact⟨rfl,I2.out⟩
def OwnSt (w:World) (B:Nat) (a:Option Addr) (c:Nat) (l:List ByteArray):Prop:=w.ownsRow B 25 1 (.slice a l.length c) l.length (strs l)
theorem made_s(n:Nat)(w:World)(hn:n≤10000000):
  (Instr.makeSlice 132 (.int .i64 (n:Int)) (.int .i64 (n:Int))).run Tryz.prog w = .ok (.slice (some ⟨w.heap.size,0,none⟩) n n) (w.alloc (.cells (strs (List.replicate n ⟨#[]⟩)).toArray 25)):=by
 have:=run_make_row' (P:=Tryz.prog) 132 25 (.string ⟨#[]⟩) 16 Tryz.underlying132 infoZ rfl .i64 .i64 n (by omega) (by omega) w
 rw[show madeCells #[.string ⟨#[]⟩] n=(strs (List.replicate n ⟨#[]⟩)).toArray by apply Array.ext';rw[toList_madeCells_one];simp[strs]] at this
 exact this
theorem own_madeT(w:World)(l:List ByteArray)(hl:l.length≤100000000):OwnSt (w.alloc (.cells (strs l).toArray 25)) w.heap.size (some ⟨w.heap.size,0,none⟩) l.length l :=
 ⟨by simp[strs_length],.inr ⟨w.heap.size,l.length,(strs l).toArray,rfl,Nat.le_refl _,heap_alloc_new _ _,Nat.le_refl _,by unfold maxLen;omega,by simp[strs_length],by rw[Nat.mul_one];exact List.take_of_length_le (by simp[strs_length])⟩⟩
theorem OwnSt.open{w:World}{B c:Nat}{a:Option Addr}{l:List ByteArray}(h:OwnSt w B a c l)(hn:0<l.length):
  ∃ g,a=some ⟨g,0,none⟩∧B≤g∧g<w.heap.size∧l.length≤c∧(∀ j,j<l.length→w.cell? ⟨g,j,none⟩=some (.string (l.getD j ⟨#[]⟩)))∧(∀ j,w.frozen? ⟨g,j,none⟩=false):=by
 obtain⟨g,cap,hv,h1,h2,h3,h4,h5⟩:=own_open h hn
 simp only[Value.slice.injEq] at hv
 obtain⟨rfl,-,rfl⟩:=hv
 exact⟨g,rfl,h1,h2,h3,fun j hj=>by rw[h4 j (by omega),strs_get l j hj],h5⟩
theorem OwnSt.store{w:World}{B c g:Nat}{l:List ByteArray}(h:OwnSt w B (some ⟨g,0,none⟩) c l)(j:Nat)(x:ByteArray):
  OwnSt (w.setCell ⟨g,j,none⟩ (.string x)) B (some ⟨g,0,none⟩) c (l.set j x):=by
 have:=(World.ownsRow.stored h j (.string x)).1
 have e:(strs l).set j (.string x)=strs (l.set j x):=by simp[strs,List.map_set]
 rw[e] at this
 unfold OwnSt
 rw[List.length_set]
 exact this
theorem OwnSt.rd{w:World}{B:Nat}{a:Option Addr}{c:Nat}{l:List ByteArray}(h:OwnSt w B a c l):Rd w a (strs l):=by
 by_cases hn:0<l.length
 ·obtain⟨g,rfl,h1,h2,h3,h4,h5⟩:=h.open hn
  refine .inr ⟨g,0,rfl,h2,fun i v hi=>?_⟩
  have hlt:=(List.getElem?_eq_some_iff.1 hi).1
  rw[strs_length] at hlt
  rw[strs_get l i hlt] at hi
  rw[Nat.zero_add,← hi];exact h4 i hlt
 ·obtain rfl:=List.length_eq_zero_iff.1 (Nat.eq_zero_of_not_pos hn)
  exact .inl rfl
def lowK (B:Nat) (ps:List Int) (l:List Rat) (k:Nat):List ByteArray:=(lowL B ps l).take k++List.replicate (ps.length-k) ⟨#[]⟩
theorem lowK_length(B:Nat)(ps:List Int)(l:List Rat)(h:l.length=ps.length)(k:Nat)(hk:k≤ps.length):(lowK B ps l k).length=ps.length:=by
 unfold lowK
 rw[List.length_append,List.length_take,lowL_length B ps l h,List.length_replicate];omega
theorem lowK_set(B:Nat)(ps:List Int)(l:List Rat)(h:l.length=ps.length)(k:Nat)(hk:k<ps.length):(lowK B ps l k).set k ((lowL B ps l).getD k ⟨#[]⟩)=lowK B ps l (k+1):=by
 have hl:((lowL B ps l).take k).length=k:=by rw[List.length_take,lowL_length B ps l h];omega
 unfold lowK
 rw[List.set_append_right _ _ (by omega),hl,Nat.sub_self,List.take_add_one,List.getElem?_eq_getElem (by rw[lowL_length B ps l h];exact hk),show ps.length-k=(ps.length-(k+1))+1 by omega,List.replicate_succ,List.set_cons_zero,List.append_assoc]
 congr 1
 rw[List.getD_eq_getElem?_getD,List.getElem?_eq_getElem (by rw[lowL_length B ps l h];exact hk)]
 rfl
theorem lowK_at(B:Nat)(ps:List Int)(l:List Rat)(h:l.length=ps.length)(k:Nat)(hk:k<ps.length):(lowK B ps l k).getD k ⟨#[]⟩=⟨#[]⟩:=by
 have hl:((lowL B ps l).take k).length=k:=by rw[List.length_take,lowL_length B ps l h];omega
 unfold lowK
 rw[List.getD_eq_getElem?_getD,List.getElem?_append_right (by omega),hl,List.getElem?_replicate]
 split<;>rfl
theorem lowK_all(B:Nat)(ps:List Int)(l:List Rat)(h:l.length=ps.length):lowK B ps l ps.length=lowL B ps l:=by
 unfold lowK
 rw[Nat.sub_self,List.replicate_zero,List.append_nil,List.take_of_length_le (by rw[lowL_length B ps l h];exact Nat.le_refl _)]
theorem lowK_zero(B:Nat)(ps:List Int)(l:List Rat):lowK B ps l 0=List.replicate ps.length ⟨#[]⟩:=by simp[lowK]
structure OpI (w wr:World) (ps:List Int) (l:List Rat) (B k:Nat) (a0:Option Addr) (c0:Nat) (a1:Option Addr) (c1:Nat):Prop where
 ob:wr.heap[w.heap.size+1]?=some (.cells #[.slice a0 ps.length c0,.slice a1 ps.length c1,.int .i64 B,.slice (some ⟨w.heap.size,0,none⟩) ps.length ps.length] 146 (0,0))
 own:OwnSt wr w.heap.size (some ⟨w.heap.size,0,none⟩) ps.length (lowK B ps l k)
 bel:Below w.heap.size w wr
theorem open_any14(w:World)(ps:List Int)(l:List Rat)(B:Nat)(a0 a1:Option Addr)(c0 c1:Nat)(rp:Rd w a0 (ints ps))(rl:Rd w a1 (cellsQ l))(hl:l.length=ps.length)(hn:ps.length≤100)(hp:∀ p∈ps,∃ q:Nat,p=q∧(q=2∨q∈oddP))(hB:B≤1000)(L:Laid w):
  Calls Tryz.prog 79 #[.slice a0 ps.length c0,.slice a1 ps.length c1,.int .i64 B] w fun e w'=>∃ R,e = .returned (.pointer (some ⟨R,0,none⟩))∧LgAt w' R ps l B∧w.heap.size≤R∧Below w.heap.size w w':=by
 have HRp:=hd_ rp
 have HRl:=hd_ rl
 have HL:=hd_ L
 have Hl:=hd_ hl
 have Hlow:=hd_ (fun (k:Nat) (hk:k<ps.length) (W:World) (hW:Below w.heap.size w W)=>show Gives Tryz.prog 67 #[.int .i64 ps[k],.int .i64 B] W (.string (dec (lgN ps[k] B))) from by
  obtain⟨q,hq,hq2⟩:=hp _ (List.getElem_mem hk)
  rw[hq]
  exact elow_any W q B hq2 hB (L.below hW))
 have Hget:=hd_ (fun k h1 h2=>lowL_get B ps l hl k h1 h2)
 have Hset:=hd_ (fun k h=>lowK_set B ps l hl k h)
 have Hat:=hd_ (fun k h=>lowK_at B ps l hl k h)
 have Hall:=hd_ (lowK_all B ps l hl)
 have hlk:=hd_ (fun k h=>lowK_length B ps l hl k h)
 clear rp rl L hp
 obtain⟨n,hn'⟩:∃ n,ps.length=n:=⟨_,rfl⟩
 have hmk:=made_s n w (by omega)
 have Hown:Hid (OwnSt (w.alloc (.cells (strs (List.replicate n ⟨#[]⟩)).toArray 25)) w.heap.size (some ⟨w.heap.size,0,none⟩) n (lowK B ps l 0)):=by
  have:=own_madeT w (List.replicate n ⟨#[]⟩) (by simp;omega)
  rw[List.length_replicate] at this
  rw[lowK_zero,hn'];exact this
 have Hb:=hd_ ((Below.refl w.heap.size w).alloc nr_ (.cells (strs (List.replicate n ⟨#[]⟩)).toArray 25))
 have hsz:(w.alloc (.cells (strs (List.replicate n ⟨#[]⟩)).toArray 25)).heap.size=w.heap.size+1:=by simp
 generalize w.alloc (.cells (strs (List.replicate n ⟨#[]⟩)).toArray 25)=w1 at *
 have HI0:Hid (OpI w (w1.alloc (.cells #[.slice a0 n c0,.slice a1 n c1,.int .i64 B,.slice (some ⟨w.heap.size,0,none⟩) n n] 146)) ps l B 0 a0 c0 a1 c1):=by
  refine⟨?_,?_,Hb.out.alloc (by omega) _⟩
  ·rw[← hsz,hn'];exact heap_alloc_new w1 _
  ·rw[hn'];exact(show OwnSt _ _ _ _ _ from World.ownsRow.alloc Hown.out _)
 have Hn:=hd_ hn'
 rw[hn']
 clear hn' Hown Hb
 go_enter Tryz.func79,Tryz.ntmps79
 go_wp2_with fail
 go_loopw [20] (fun i wr=>∃ k:Nat,k≤n∧i = .int .i64 k∧Hid (OpI w wr ps l B k a0 c0 a1 c1)) (fun i _=>n-(intOf i).toNat)
 case atStart=>exact⟨0,Nat.zero_le _,rfl,by rw[hsz] at *;exact HI0⟩
 case round =>
  obtain⟨k,hk,rfl,HI⟩:=hrel
  clear HI0
  by_cases hlt:k<n
  ·have hlt':(k:Int)<n:=by omega
   have hkp:k<ps.length:=by rw[Hn.out];exact hlt
   have hkl:k<l.length:=by rw[Hl.out];exact hkp
   obtain⟨b0,o0,rfl,hb0,hc0⟩:=HRp.out.open (by rw[ints_length];omega)
   have cp:=hc0 k _ (ints_get ps k hkp)
   rw[← HI.out.bel.cell (p:=⟨b0,o0+k,none⟩) hb0] at cp
   obtain⟨b1,o1,rfl,hb1,hc1⟩:=HRl.out.open (by rw[cellsQ_length];omega)
   obtain⟨x0,x1⟩:=cellsS_rd hc1 k (by rw[List.length_map];exact hkl)
   rw[qs_getD l k hkl] at x0 x1
   rw[← HI.out.bel.cell (p:=⟨b1,o1+k*2,none⟩) hb1] at x0
   rw[← HI.out.bel.cell (p:=⟨b1,o1+k*2+1,none⟩) hb1] at x1
   have Hsg:=hd_ (fun W=>signR W l[k])
   have hkw:IntKind.i64.wrap ((k:Int)+1)=((k+1:Nat):Int):=by rw[← Int.natCast_succ];exact iw_ _ (by omega)
   have hget:=Hget.out k hkp hkl
   have hset:=Hset.out k hkp
   have hat:=Hat.out k hkp
   have hlo:=hd_ (fun W (hW:Below w.heap.size w W)=>Hlow.out k hkp W hW)
   have hlen:=hlk.out k (by rw[Hn.out];omega)
   clear hc0 hc1
   unfold fr fv at Hsg
   unfold qs at x0 x1
   generalize l[k]=q at *
   generalize ps[k]=pk at *
   simp only at x0 x1
   by_cases hz:q.num=0
   ·rw[hz] at Hsg
    rw[if_pos hz] at hget
    rw[hget] at hset
    have hsame:lowK B ps l (k+1)=lowK B ps l k:=by
     rw[← hset]
     refine List.ext_getElem? fun i=>?_
     by_cases hi:k=i
     ·subst hi
      rw[List.getElem?_set_self (by rw[hlen];exact hkp)]
      rw[List.getD_eq_getElem?_getD,List.getElem?_eq_getElem (by rw[hlen];exact hkp)] at hat
      rw[List.getElem?_eq_getElem (by rw[hlen];exact hkp)]
      exact congrArg some hat.symm
     ·rw[List.getElem?_set_ne hi]
    rw[hz] at x0
    have HS:=hd_ hsame
    clear hget hset hat hlen hsame hz hlo
    go_wp2_with fail
    refine cm_ (Hsg.out _) ?_
    rintro e w2 ⟨rfl,hb⟩
    have HI2:Hid (OpI w w2 ps l B (k+1) (some ⟨b0,o0,none⟩) c0 (some ⟨b1,o1,none⟩) c1) :=
     ⟨by rw[hb.block _ (Array.getElem?_eq_some_iff.1 HI.out.ob).1];exact HI.out.ob,by rw[HS.out];exact own_below HI.out.own hb nr_,HI.out.bel.trans (hb.mono HI.out.bel.size)⟩
    clear hb Hsg HI HS
    go_wp2_with fail
    refine⟨⟨k+1,by omega,by go_num,HI2⟩,by simp[intOf];omega⟩
   ·rw[if_neg hz] at hget
    rw[hget] at hset
    have hsz':(q.num.sign==0)=false:=by
     rw[beq_eq_false_iff_ne]
     intro h
     exact hz (Int.sign_eq_zero_iff_zero.1 h)
    have hsn:(q.num.sign != 0)=true:=by
     rw[bne_iff_ne]
     intro h
     exact hz (Int.sign_eq_zero_iff_zero.1 h)
    clear hget hat hlen hz
    go_wp2_with fail
    refine cm_ (Hsg.out _) ?_
    rintro e w2 ⟨rfl,hb⟩
    have HI2:Hid (OpI w w2 ps l B k (some ⟨b0,o0,none⟩) c0 (some ⟨b1,o1,none⟩) c1) :=
     ⟨by rw[hb.block _ (Array.getElem?_eq_some_iff.1 HI.out.ob).1];exact HI.out.ob,own_below HI.out.own hb nr_,HI.out.bel.trans (hb.mono HI.out.bel.size)⟩
    clear hb Hsg HI x0 x1 cp hsz'
    obtain⟨k0,k1,k2,k3,-⟩:=four_cells HI2.out.ob
    rw[Hn.out] at k3
    have q0:=NW.cell k3
    have hnon:Nonempty (NW w2):=⟨⟨w2,Below.refl _ _⟩⟩
    have I:Hid (Below w2.heap.size w2 w2.drew):=(Below.refl _ _).drew
    clear k0 k1 k2 k3
    go_wp2_with fail
    refine RP.wp_region_readers 9 [(2,0),(2,1),(2,2),(1,3),(2,4),(2,5),(2,6),(0,7),(2,8),(0,9)] (fun w'=>∃ p:NW w2,w'=p.w) (by kernel_rfl) (by kernel_rfl) ?_ ?_
    ·exact⟨⟨_,I.out⟩,rfl⟩
    iterate 3 (refine RP.walkR_any ?_;simp only[dsc_,dz_,tsc_,tz_];go_big_quiet_step (fail);refine wpQuiet_nil ?_)
    iterate 1 (refine RP.walkR_read ?_;simp only[dsc_,dz_,tsc_,tz_];go_big_quiet_step (fail);refine wpQuiet_nil ?_)
    iterate 3 (refine RP.walkR_any ?_;simp only[dsc_,dz_,tsc_,tz_];go_big_quiet_step (fail);refine wpQuiet_nil ?_)
    clear hnon q0
    refine RP.walkR_move ?_
    simp only[dsc_,dz_,tsc_,tz_]
    go_wp2_with fail
    refine cm_ (hlo.out _ (HI2.out.bel.trans (I.out.mono HI2.out.bel.size))) ?_
    rintro e w3 ⟨rfl,hb⟩
    have I3:Hid (Below w2.heap.size w2 w3):=I.out.trans (hb.mono I.out.size)
    clear hb I hlo
    have HI3:Hid (OpI w w3 ps l B k (some ⟨b0,o0,none⟩) c0 (some ⟨b1,o1,none⟩) c1) :=
     ⟨by rw[I3.out.block _ (Array.getElem?_eq_some_iff.1 HI2.out.ob).1];exact HI2.out.ob,own_below HI2.out.own I3.out nr_,HI2.out.bel.trans (I3.out.mono HI2.out.bel.size)⟩
    obtain⟨g,hg,hg1,hg2,hg3,hg4,hg5⟩:=HI3.out.own.open (by rw[hlk.out k (by rw[Hn.out];omega)];omega)
    obtain rfl:w.heap.size=g:=by simpa using hg
    have hce:=hg4 k (by rw[hlk.out k (by rw[Hn.out];omega)];exact hkp)
    have hfe:=hg5 k
    clear hg hg3 hg4 hg5
    have HI4:Hid (OpI w (w3.setCell ⟨w.heap.size,k,none⟩ (.string (dec (lgN pk B)))) ps l B (k+1) (some ⟨b0,o0,none⟩) c0 (some ⟨b1,o1,none⟩) c1) :=
     ⟨by rw[Below.heap_setCell _ _ _ _ (by show w.heap.size+1≠w.heap.size;omega)];exact HI3.out.ob,by rw[← hset];exact HI3.out.own.store k _,HI3.out.bel.setCell (p:=⟨w.heap.size,k,none⟩) nr_ _⟩
    go_wp2_with fail
    refine⟨⟨⟨_,I3.out⟩,rfl⟩,?_⟩
    clear I3 HI2 HI3
    iterate 1 (refine RP.walkR_any ?_;simp only[dsc_,dz_,tsc_,tz_];go_big_quiet_step (fail);refine wpQuiet_nil ?_)
    refine RP.walkR_move ?_
    simp only[dsc_,dz_,tsc_,tz_]
    go_wp2_with fail
    simp only[RP.walkR]
    go_wp2_with fail
    refine⟨⟨k+1,by omega,by go_num,HI4⟩,by simp[intOf];omega⟩
  ·obtain rfl:k=n:=by omega
   have hlt':¬ (k:Int)<k:=by omega
   have HR:Hid (LgAt wr (w.heap.size+1) ps l B):=by
    refine⟨a0,c0,a1,c1,some ⟨w.heap.size,0,none⟩,ps.length,HI.out.ob,HRp.out.below HI.out.bel nr_,HRl.out.below HI.out.bel nr_,?_⟩
    have:=HI.out.own
    rw[← Hn.out,Hall.out,Hn.out] at this
    have h2:OwnSt wr w.heap.size (some ⟨w.heap.size,0,none⟩) ps.length (lowL B ps l):=by rw[Hn.out];exact this
    exact h2.rd
   go_wp2_with fail
   go_ret
   exact⟨w.heap.size+1,rfl,HR.out,Nat.le_succ _,HI.out.bel⟩
end Go.Proofs.YtnjedhgcfeoemaaGreatDoor
