/- Lemmas for the laws of this seat, part 4. -/
import Derived.WalkMore
import Derived.Scope
import Derived.Laws.BitsLemmas
import Derived.Laws.Bits64
import Derived.Shelf.Lays7
import Derived.Shelf.Spec.BitsCarry
import Derived.Test.YtbielfplgbammaaGreatDoorTf3
set_option maxRecDepth 100000
set_option maxHeartbeats 16000000
namespace Go.Proofs.YtbielfplgbammaaGreatDoor.LN
theorem Zqj(ps ks:List Int)(h:∀ p∈ps,0<p)(j:Int):vp ps (ks.map fun k=>j*k)=vp ps ks^j:=by
 rcases Int.eq_nat_or_neg j with⟨n,rfl|rfl⟩
 ·rw[Rat.zpow_natCast,Zd5 _ _ h]
 ·rw[Rat.zpow_neg,Rat.zpow_natCast,<- Zd5 _ _ h,<- Qae _ _ h];congr 1;rw[List.map_map];refine List.map_congr_left fun k _=>?_
  show -(n:Int)*k = -((n:Int)*k)
  grind
def subQ (q:Int) (la lb:List Rat):List Rat:=List.zipWith (fun a b=>a+(-(q:Rat))*b) la lb
theorem Zp0(a b:Rat):(a+b).den ∣ a.den*b.den:=by
 rw[Rat.add_def',mkRat_den' _ _ (Nat.mul_ne_zero a.den_nz b.den_nz)];exact Nat.div_dvd_of_dvd (Nat.gcd_dvd_right _ _)
theorem Zpz(a b:Rat):(a*b).den ∣ a.den*b.den:=by
 rw[Rat.mul_def',mkRat_den' _ _ (Nat.mul_ne_zero a.den_nz b.den_nz)];exact Nat.div_dvd_of_dvd (Nat.gcd_dvd_right _ _)
theorem Zhu(a b:Rat)(q:Int):(a+(-(q:Rat))*b).den ∣ a.den*b.den:=by
 refine Nat.dvd_trans (Zp0 _ _) (Nat.mul_dvd_mul (Nat.dvd_refl _) ?_);have h:=Zpz (-(q:Rat)) b;rw[Rat.neg_den,Rat.den_intCast,Nat.one_mul] at h;exact h
theorem Qeq{d g:Nat}{a b:Rat}(q:Int)(ha:a.den ∣ d)(hb:b.den ∣ g):ex (d*g) (a+(-(q:Rat))*b)=(g:Int)*ex d a+(-(q*d))*ex g b:=by
 have h:(a+(-(q:Rat))*b).den ∣ d*g:=Nat.dvd_trans (Zhu a b q) (Nat.mul_dvd_mul ha hb);rw[<- Rat.intCast_inj,Rat.intCast_add,Rat.intCast_mul,Rat.intCast_mul,ex_eq h,ex_eq ha,ex_eq hb,Rat.natCast_mul,Rat.intCast_neg,Rat.intCast_mul,Rat.intCast_natCast,Rat.intCast_natCast]
 grind
theorem Zqn{ps:List Int}{la lb:List Rat}(hp:∀ p∈ps,0<p)(hl:la.length=lb.length)(q:Int):
  sz ps (subQ q la lb)=sg (vt (Kr (Ko la) ps la)^((Ko lb:Nat):Int)*vt (Kr (Ko lb) ps lb)^(-(q*((Ko la:Nat):Int)))):=by
 have h:∀ x∈subQ q la lb,x.den ∣ Ko la*Ko lb:=by
  intro x hx;unfold subQ at hx;obtain⟨i,hi,rfl⟩:=List.mem_iff_getElem.1 hx;rw[List.getElem_zipWith];exact Nat.dvd_trans (Zhu _ _ q) (Nat.mul_dvd_mul (tden_dvd (List.getElem_mem _)) (tden_dvd (List.getElem_mem _)))
 rw[Zkb hp (Nat.mul_pos (tden_pos' _) (tden_pos' _)) h,Zf7,Zf7,<- Zqj _ _ hp,<- Zqj _ _ hp,<- Zl0 _ _ _ hp (by simp[hl])];congr 2;refine List.ext_getElem (by simp[subQ]) fun i h1 h2=>?_
 have i1:i<la.length:=by simp at h2;omega
 have i2:i<lb.length:=by omega
 simp only[subQ,List.getElem_map,List.getElem_zipWith];exact Qeq q (tden_dvd (List.getElem_mem i1)) (tden_dvd (List.getElem_mem i2))
def FloorOf (ps:List Int) (la lb:List Rat) (q:Int):Prop:=0<=sz ps (subQ q la lb)*sz ps lb/\sz ps (subQ (q+1) la lb)*sz ps lb<0
theorem sz_of_vt{ps:List Int}{l:List Rat}(hp:∀ p∈ps,0<p):sz ps l=sg (vt (Kr (Ko l) ps l)):=Zqt _ (Yp hp)
theorem floor_pos{ps:List Int}{la lb:List Rat}(hp:∀ p∈ps,0<p)(hl:la.length=lb.length){n:Nat}{f:Int->Nat}
  (hf:∀ p∈ps,LogAt n p (f p)) {q:Int} {xl xh yl yh:Int} (e1:eLo f (Kr (Ko la) ps la)=xl) (e2:eHi f (Kr (Ko la) ps la)=xh) (e3:eLo f (Kr (Ko lb) ps lb)=yl) (e4:eHi f (Kr (Ko lb) ps lb)=yh)
  (ac:0<yl) (hy:yl<=yh) (h1:quoL xl yl yh (Ko lb) (Ko la)=q) (h2:quoH xh yl yh (Ko lb) (Ko la)=q):FloorOf ps la lb q:=by
 have hm:∀ (D:Nat) (l:List Rat),∀ x∈Kr D ps l,LogAt n x.1 (f x.1):=by
  intro D l x hx;unfold Kr at hx;obtain⟨y,hy,he⟩:=List.mem_filterMap.1 hx;have h1:=(List.of_mem_zip hy).1;split at he
  ·cases he
  ·cases he;exact hf _ h1
 have bx:=Zgg n f _ (Yp hp) (hm (Ko la) la);have b2:=Zgg n f _ (Yp hp) (hm (Ko lb) lb);rw[e1,e2] at bx;rw[e3,e4] at b2;have hX:=Zip _ (Yp (D:=Ko la) (l:=la) hp);have hY:=Zip _ (Yp (D:=Ko lb) (l:=lb) hp);have hd:(0:Int)<((Ko la:Nat):Int):=by have:=tden_pos' la;omega
 have hg:(0:Int)<((Ko lb:Nat):Int):=by have:=tden_pos' lb;omega
 obtain⟨r1,r2⟩:=Zqx hX hY bx b2 hd hg ac hy h1 h2;have hs:sz ps lb=1:=by
  rw[sz_of_vt hp,<- Zeb hY n];exact sg_pos.2 (b2.gt ac)
 unfold FloorOf;rw[Zqn hp hl,Zqn hp hl,hs,r2];exact⟨by omega,by decide⟩
theorem floor_neg{ps:List Int}{la lb:List Rat}(hp:∀ p∈ps,0<p)(hl:la.length=lb.length){n:Nat}{f:Int->Nat}
  (hf:∀ p∈ps,LogAt n p (f p)) {q:Int} {xl xh yl yh:Int} (e1:eLo f (Kr (Ko la) ps la)=xl) (e2:eHi f (Kr (Ko la) ps la)=xh) (e3:eLo f (Kr (Ko lb) ps lb)=yl) (e4:eHi f (Kr (Ko lb) ps lb)=yh)
  (hyh:yh<0) (hy:yl<=yh) (h1:quoL (-xh) (-yh) (-yl) (Ko lb) (Ko la)=q) (h2:quoH (-xl) (-yh) (-yl) (Ko lb) (Ko la)=q):FloorOf ps la lb q:=by
 have hm:∀ (D:Nat) (l:List Rat),∀ x∈Kr D ps l,LogAt n x.1 (f x.1):=by
  intro D l x hx;unfold Kr at hx;obtain⟨y,hy,he⟩:=List.mem_filterMap.1 hx;have h1:=(List.of_mem_zip hy).1;split at he
  ·cases he
  ·cases he;exact hf _ h1
 have bx:=Zgg n f _ (Yp hp) (hm (Ko la) la);have b2:=Zgg n f _ (Yp hp) (hm (Ko lb) lb);rw[e1,e2] at bx;rw[e3,e4] at b2;have hX:=Zip _ (Yp (D:=Ko la) (l:=la) hp);have hY:=Zip _ (Yp (D:=Ko lb) (l:=lb) hp);have hd:(0:Int)<((Ko la:Nat):Int):=by have:=tden_pos' la;omega
 have hg:(0:Int)<((Ko lb:Nat):Int):=by have:=tden_pos' lb;omega
 have inv:∀ x:Rat,0<x->x⁻¹ ^ (2^n)=(x^(2^n))⁻¹:=fun x hx=>by
  have e:x⁻¹=x^(-1:Int):=by rw[Rat.zpow_neg,Rat.zpow_one]
  rw[e,Zl (by grind),Rat.zpow_neg,Rat.zpow_one]
 have Lw:=bx.inv;have Lx:=b2.inv;rw[<- inv _ hX] at Lw;rw[<- inv _ hY] at Lx;obtain⟨r1,r2⟩:=Zqx (Rat.inv_pos.2 hX) (Rat.inv_pos.2 hY) Lw Lx hd hg (by omega) (by omega) h1 h2;have hs:sz ps lb = -1:=by
  rw[sz_of_vt hp,<- Zeb hY n];exact sg_low.2 (b2.lt hyh)
 have AA:∀ j k:Int,sg (vt (Kr (Ko la) ps la)^j*vt (Kr (Ko lb) ps lb)^k) = - sg ((vt (Kr (Ko la) ps la))⁻¹ ^ j*(vt (Kr (Ko lb) ps lb))⁻¹ ^ k):=fun j k=>by
  rw[<- Qak (Rat.mul_pos (Rat.zpow_pos (Rat.inv_pos.2 hX)) (Rat.zpow_pos (Rat.inv_pos.2 hY)))];congr 1;have e:∀ (x:Rat) (m:Int),0<x->x⁻¹ ^ m=(x^m)⁻¹:=fun x m hx=>by
   have e:x⁻¹=x^(-1:Int):=by rw[Rat.zpow_neg,Rat.zpow_one]
   rw[e,Zby (by grind),<- Rat.zpow_neg];congr 1;omega
  rw[e _ _ hX,e _ _ hY,Rat.inv_mul_rev,Rat.inv_inv,Rat.inv_inv,Rat.mul_comm]
 unfold FloorOf;rw[Zqn hp hl,Zqn hp hl,hs,AA,AA,r2];exact⟨by omega,by decide⟩
theorem Zix{la lb:List Rat}{k:Rat}(h:la=lb.map fun x=>k*x)(q:Int):subQ q la lb=lb.map fun x=>(k+(-(q:Rat)))*x:=by
 rw[h];unfold subQ;rw[List.zipWith_map_left];refine List.ext_getElem (by simp) fun i h1 h2=>?_
 simp
 grind
theorem floor_mult{ps:List Int}{la lb:List Rat}(hp:∀ p∈ps,0<p){k:Rat}(h:la=lb.map fun x=>k*x)(h0:sz ps lb≠0):FloorOf ps la lb k.floor:=by
 have h1:=Rat.floor_le k;have h2:k-1<((k.floor:Int):Rat):=Rat.lt_floor;have hs:sz ps lb=1\/sz ps lb = -1:=by
  rw[sz_of_vt hp] at h0 ⊢;rcases sg_cases (vt (Kr (Ko lb) ps lb)) with h|h|h
  ·exact .inl h
  ·exact absurd h h0
  ·exact .inr h
 unfold FloorOf;rw[Zix h,Zix h,sz_mul hp,sz_mul hp];have n1:0<=(k + -((k.floor:Int):Rat)).num:=Rat.num_nonneg.2 (by grind);have n2:(k + -(((k.floor+1:Int)):Rat)).num<0:=Zq7.2 (by rw[Rat.intCast_add];grind);have s1:0<=(k + -((k.floor:Int):Rat)).num.sign:=by
  rcases Int.lt_or_eq_of_le n1 with h|h
  ·rw[Int.sign_eq_one_of_pos h];decide
  ·rw[<- h];decide
 rw[Int.sign_eq_neg_one_of_neg n2];rcases hs with hs|hs<;>rw[hs]<;>omega
end Go.Proofs.YtbielfplgbammaaGreatDoor.LN

namespace Go.Proofs.YtbielfplgbammaaGreatDoor
open Go.RowKit
theorem Qd9{n:Nat}{tl:List (Int×Int)}(h:PrT tl)(hn:n<=1056):∀ x∈tl,LN.LogAt n x.1 (lf n x.1):=fun x hx=>by
 obtain⟨q,e,hq⟩:=h x hx;rw[e];exact Zv8 hq hn
structure TrT (tl:List (Int×Int)):Prop where
 p:PrT tl
 nz:∀ x∈tl,x.2≠0
 nd:(tl.map Prod.fst).Nodup
theorem Zi2{n:Nat}{tl:List (Int×Int)}(h:TrT tl)(hn:n<=1056)(gm:tl≠[])(h0:0<=LN.eLo (lf n) tl):LN.signT tl=1:=by
 rw[LN.eLo_eq] at h0;exact LN.sign_low n (lf n) tl (Qd9 h.p hn) h.nz gm h.nd (by omega)
theorem Zi3{n:Nat}{tl:List (Int×Int)}(h:TrT tl)(hn:n<=1056)(gm:tl≠[])(h0:LN.eHi (lf n) tl<=0):LN.signT tl = -1:=by
 rw[LN.eHi_eq] at h0;exact LN.sign_high n (lf n) tl (Qd9 h.p hn) h.nz gm h.nd (by omega)
theorem Zy7(N:Nat):Qc8 2 N N:=⟨Nat.le_refl _,Nat.pow_lt_pow_right (by decide) (by omega)⟩
theorem Zzq(more n:Nat)(hm:1<=more){s:Nat×Nat×Nat}(h:Vr 2 more n=some s):s.2.2=2^n :=
 Zrk (Zeq 2 more (by decide) hm n s h).lg (Zy7 _)
theorem Qd8{p:Int}(hp:∃ q:Nat,p=q/\(q=2\/q∈Za4))(h:(Vr p.toNat 62 26).isSome=true):lgA p=(lf 26 p:Int)/\lgB p=(LN.hiL (lf 26) p:Int):=by
 obtain⟨q,rfl,hq⟩:=hp;obtain⟨s,hs⟩:=Option.isSome_iff_exists.1 h;rw[Int.toNat_natCast] at hs;have e:lgA q=(lf 26 q:Int):=by
  unfold lgA;rw[Int.toNat_natCast,hs]
  show ((s.2.2:Nat):Int)=((lgN q 26:Nat):Int)
  rcases hq with rfl|hq
  ·rw[Zzq 62 26 (by decide) hs];rw[show ((2:Nat):Int)=2 from rfl,Zq]
  ·rw[Zep hq (by decide) (by decide) hs]
 refine⟨e,?_⟩;unfold lgB LN.hiL;rw[e];split
 ·rfl
 ·rfl
theorem Zo4{most:Int}:∀ tl:List (Int×Int),PrT tl->(∀ x∈tl,okT most x)->Zcm tl=LN.eLo (lf 26) tl/\Vx tl=LN.eHi (lf 26) tl
 | [],_,_=>⟨rfl,rfl⟩
 | x::l,hp,ho=>by
  obtain⟨i1,i2⟩:=Zo4 l (fun y hy=>hp y (List.mem_cons_of_mem _ hy)) (fun y hy=>ho y (List.mem_cons_of_mem _ hy));obtain⟨a1,a2⟩:=Qd8 (hp x List.mem_cons_self) (ho x List.mem_cons_self).2;have e1:Zcm (x::l)=min (x.2*lgA x.1) (x.2*lgB x.1)+Zcm l:=by simp[Zcm]
  have e2:Vx (x::l)=max (x.2*lgA x.1) (x.2*lgB x.1)+Vx l:=by simp[Vx]
  have f1:LN.eLo (lf 26) (x::l)=(if x.2<0 then x.2*(LN.hiL (lf 26) x.1:Int) else x.2*(lf 26 x.1:Int))+LN.eLo (lf 26) l:=by simp[LN.eLo]
  have f2:LN.eHi (lf 26) (x::l)=(if x.2<0 then x.2*(lf 26 x.1:Int) else x.2*(LN.hiL (lf 26) x.1:Int))+LN.eHi (lf 26) l:=by simp[LN.eHi]
  have fO:lf 26 x.1<=LN.hiL (lf 26) x.1:=by unfold LN.hiL;split<;>omega
  rw[e1,e2,f1,f2,i1,i2,a1,a2]
  by_cases hk:x.2<0
  ·have h1:x.2*(LN.hiL (lf 26) x.1:Int)<=x.2*(lf 26 x.1:Int):=Int.mul_le_mul_of_nonpos_left (by omega) (by omega);rw[if_pos hk,if_pos hk,Int.min_eq_right h1,Int.max_eq_left h1];exact⟨rfl,rfl⟩
  ·have h1:x.2*(lf 26 x.1:Int)<=x.2*(LN.hiL (lf 26) x.1:Int):=Int.mul_le_mul_of_nonneg_left (by omega) (by omega);rw[if_neg hk,if_neg hk,Int.min_eq_left h1,Int.max_eq_right h1];exact⟨rfl,rfl⟩
def Pw (n:Nat):Prop:=n=64\/n=128\/n=256\/n=512\/n=1024
def Dec (tl:List (Int×Int)):Prop:=0<=LN.eLo (lf 1024) tl\/LN.eHi (lf 1024) tl<=0
def Vm:List Int:=[2,3,5,7,11,13]
theorem Qav{p n L:Nat}(hp:p∈Za4)(hn:n<=1056)(h:LN.lg p p.log2 n 1120=some L):lgN p n=L:=by
 rw[Zv6] at h;obtain⟨s,hs,e⟩:=Option.map_eq_some_iff.1 h;rw[<- Zep hp hn (by decide) hs,e]
theorem Qb9:([3,5,7,11,13]:List Nat).map (fun p=>LN.lg p p.log2 1024 1120)=LN.certL.tail.map fun x=>some x.toNat:=by decide +kernel
theorem Zt3:LN.certL.head?=some (2^1024):=by decide +kernel
theorem Zw9:∀ x∈LN.certL,(0:Int)<=x:=by decide +kernel
theorem Qay(n:Nat):((lf n 2:Nat):Int)=2^n:=by
 show ((lgN 2 n:Nat):Int)=_
 rw[Zq,Int.natCast_pow];rfl
theorem Zjj{a k m:Nat}(ha:a<=100)(h:7+k<=m):a*2^k<=2^m:=by
 have:a*2^k<=2^7*2^k:=Nat.mul_le_mul_right _ (by omega)
 rw[<- Nat.pow_add] at this;exact Nat.le_trans this (Nat.pow_le_pow_right (by decide) h)
theorem Zlp:Vm.map (fun p=>((lf 1024 p:Nat):Int))=LN.certL:=by
 have h:=Qb9;have h0:=Zt3;have hp:=Zw9;obtain⟨c0,c1,c2,c3,c4,c5,e⟩:∃ c0 c1 c2 c3 c4 c5,LN.certL=[c0,c1,c2,c3,c4,c5]:=⟨_,_,_,_,_,_,rfl⟩;rw[e] at h h0 hp ⊢;have Ge:∀ (p:Nat) (c:Int),p∈Za4->0<=c->LN.lg p p.log2 1024 1120=some c.toNat->((lf 1024 (p:Int):Nat):Int)=c:=fun p c hp h0 h=>by
  have:=Qav hp (by decide) h
  show ((lgN p 1024:Nat):Int)=c
  rw[this];omega
 simp only[List.map_cons,List.map_nil,List.tail_cons,List.cons.injEq,and_true] at h;obtain⟨h1,h2,h3,h4,h5⟩:=h;simp only[List.head?_cons,Option.some.injEq] at h0;have p1:=hp c1 (by simp);have p2:=hp c2 (by simp);have p3:=hp c3 (by simp);have p4:=hp c4 (by simp);have p5:=hp c5 (by simp);have k1:=Ge 3 c1 (by decide) p1 h1;have k2:=Ge 5 c2 (by decide) p2 h2;have k3:=Ge 7 c3 (by decide) p3 h3;have k4:=Ge 11 c4 (by decide) p4 h4;have k5:=Ge 13 c5 (by decide) p5 h5;have k0:((lf 1024 2:Nat):Int)=c0:=by
  rw[h0];exact Qay 1024
 show [((lf 1024 2:Nat):Int),((lf 1024 3:Nat):Int),((lf 1024 5:Nat):Int),((lf 1024 7:Nat):Int),((lf 1024 11:Nat):Int),((lf 1024 13:Nat):Int)]=_
 rw[k0];rw[show ((lf 1024 3:Nat):Int)=c1 from k1,show ((lf 1024 5:Nat):Int)=c2 from k2,show ((lf 1024 7:Nat):Int)=c3 from k3,show ((lf 1024 11:Nat):Int)=c4 from k4,show ((lf 1024 13:Nat):Int)=c5 from k5]
def Kb:Nat:=2^100
theorem Zp1{tl:List (Int×Int)}(h1:∀ x∈tl,x.1∈Vm)(h0:∀ x∈tl,x.2≠0)(hd:(tl.map Prod.fst).Nodup)(hk:∀ x∈tl,x.2.natAbs<=Kb)(hl:tl.length<=100)(gm:tl≠[]):Dec tl:=by
 have hc:=LN.cert_ok;rw[<- Zlp] at hc;have hS:=@Zjj tl.length 100 503 hl (by decide);have:=LN.ends_decide hc (by decide) tl hS gm (fun x hx=>⟨h1 x hx,h0 x hx,hk x hx⟩) hd
 unfold Dec;rw[LN.eLo_eq,LN.eHi_eq];omega
def Zd1:List Int:=[2,3,5,7,11,13,17,19,23,29,31,37,41,43,47,53,59,61,67,71,73,79,83,89,97]
structure Zh9 (ps:List Int) (l:List Rat):Prop where
 pr:∀ p∈ps,p∈Zd1
 nd:ps.Nodup
 kb:∀ x∈tlQ ps l,x.2.natAbs<=Kb
 dc:ps.length<=100->tlQ ps l≠[]->Dec (tlQ ps l)
theorem Vz(D:Nat):∀ (ps:List Int) (l:List Rat),((Kr D ps l).map Prod.fst).Sublist ps
 | [],_=>by simp[Kr]
 | _::_,[]=>by simp[Kr]
 | p::ps,q::l=>by
  have ih:=Vz D ps l;unfold Kr at ih ⊢;rw[List.zip_cons_cons,List.filterMap_cons]
  by_cases h:q.num=0
  ·simp only[h,if_true];exact ih.cons _
  ·simp only[h,if_false];exact ih.cons_cons _
theorem Zme{p:Int}(h:p∈Vm):∃ q:Nat,p=q/\(q=2\/q∈Za4):=by
 simp only[Vm,List.mem_cons,List.not_mem_nil,or_false] at h;rcases h with rfl|rfl|rfl|rfl|rfl|rfl
 ·exact⟨2,rfl,.inl rfl⟩
 ·exact⟨3,rfl,.inr (by decide)⟩
 ·exact⟨5,rfl,.inr (by decide)⟩
 ·exact⟨7,rfl,.inr (by decide)⟩
 ·exact⟨11,rfl,.inr (by decide)⟩
 ·exact⟨13,rfl,.inr (by decide)⟩
theorem Zl5{ps:List Int}{l:List Rat}{x:Int×Int}(h:x∈tlQ ps l):x.2≠0:=by
 obtain⟨_,q,hq,hn,he⟩:=Qm h;rw[he];refine Int.mul_ne_zero hn ?_;have h1:=LN.tden_dvd hq;have h2:=LN.tden_pos' l;have h3:0<Ko l/q.den:=Nat.div_pos (Nat.le_of_dvd h2 h1) q.den_pos;omega
theorem Zsg:Zd1=2::Za4.map (fun p=>((p:Nat):Int)):=by decide +kernel
theorem Zbx{p:Int}(h:p∈Zd1):∃ q:Nat,p=q/\(q=2\/q∈Za4):=by
 rw[Zsg] at h;rcases List.mem_cons.1 h with rfl|h
 ·exact⟨2,rfl,.inl rfl⟩
 ·obtain⟨q,hq,rfl⟩:=List.mem_map.1 h;exact⟨q,rfl,.inr hq⟩
theorem Zah{p:Int}(h:p∈Vm):p∈Zd1:=by
 have:∀ p∈Vm,p∈Zd1:=by decide
 exact this p h
theorem Zl4{ps:List Int}{l:List Rat}(h1:∀ p∈ps,p∈Zd1)(h2:ps.Nodup):TrT (tlQ ps l) :=
 ⟨fun _ hx=>Zbx (h1 _ (Qm hx).1),fun _ hx=>Zl5 hx,(Vz _ ps l).nodup h2⟩
theorem Zh9.trt{ps:List Int}{l:List Rat}(h:Zh9 ps l):TrT (tlQ ps l):=Zl4 h.pr h.nd
theorem Zh9.lt{ps:List Int}{l:List Rat}(h:Zh9 ps l):∀ x∈tlQ ps l,x.2.natAbs<2^101:=fun x hx=>Nat.lt_of_le_of_lt (h.kb x hx) (by decide)
theorem Zh9.dec{ps:List Int}{l:List Rat}(h:Zh9 ps l)(hn:ps.length<=100)(gm:tlQ ps l≠[]):Dec (tlQ ps l):=h.dc hn gm
theorem Zis{ps:List Int}{l:List Rat}(hn:ps.length<=100):(tlQ ps l).length<=100 :=
 Nat.le_trans (by have:=(Vz (Ko l) ps l).length_le;rw[List.length_map] at this;exact this) hn
theorem Zh9.small{ps:List Int}{l:List Rat}(h1:∀ p∈ps,p∈Vm)(h2:ps.Nodup)(hk:∀ x∈tlQ ps l,x.2.natAbs<=Kb):Zh9 ps l :=
 ⟨fun p hp=>Zah (h1 p hp),h2,hk,fun hn gm=>Zp1 (fun _ hx=>h1 _ (Qm hx).1) (Zl4 (fun p hp=>Zah (h1 p hp)) h2).nz (Zl4 (fun p hp=>Zah (h1 p hp)) h2).nd hk (Zis hn) gm⟩
theorem Zch:∀ k,k<10->(∀ p∈Vc k,p∈Vm)/\(Vc k).Nodup:=by decide +kernel
theorem Zi1{ps:List Int}(h:∀ p∈ps,p∈Vm):∀ p∈ps,0<p:=fun p hp=>by
 have Ge:∀ q∈Vm,0<q:=by decide
 exact Ge p (h p hp)
def Sml (N M:Nat) (l:List Rat):Prop:=∀ q∈l,q.den ∣ M/\(LN.ex M q).natAbs<=N
theorem Sml.le{N K M:Nat}{l:List Rat}(h:Sml N M l)(hK:N<=K):Sml K M l:=fun q hq=>⟨(h q hq).1,Nat.le_trans (h q hq).2 hK⟩
theorem Zrr{M:Nat}{q:Rat}(z:Int)(hM:0<M)(h:q*(M:Rat)=(z:Rat)):q.den ∣ M/\LN.ex M q=z:=by
 have np:(M:Rat)≠0:=by have:=Rat.natCast_pos.2 hM;grind
 have e:q=mkRat z M:=by
  rw[Rat.mkRat_eq_div];have:=Rat.mul_div_cancel (a:=q) np
  rw[<- h];exact this.symm
 have hd:q.den ∣ M:=by
  rw[e,LN.mkRat_den' _ _ (by omega)];exact Nat.div_dvd_of_dvd (Nat.gcd_dvd_right _ _)
 refine⟨hd,?_⟩;rw[<- Rat.intCast_inj,LN.ex_eq hd,h]
theorem Sml.comb{N K M:Nat}{la lb:List Rat}(hM:0<M)(ha:Sml N M la)(hb:Sml K M lb)(f g:Int):Sml (N*f.natAbs+K*g.natAbs) M (Ki la lb (f:Rat) (g:Rat)):=by
 intro q hq;obtain⟨i,hi,rfl⟩:=List.mem_iff_getElem.1 hq;have DJ:i<la.length/\i<lb.length:=by simp[Ki] at hi;omega
 simp only[Ki,List.getElem_zipWith];obtain⟨d1,n1⟩:=ha _ (List.getElem_mem DJ.1);obtain⟨d2,n2⟩:=hb _ (List.getElem_mem DJ.2);have h:(la[i]'DJ.1*(f:Rat)+lb[i]'DJ.2*(g:Rat))*(M:Rat)=((LN.ex M (la[i]'DJ.1)*f+LN.ex M (lb[i]'DJ.2)*g:Int):Rat):=by
  rw[Rat.intCast_add,Rat.intCast_mul,Rat.intCast_mul,LN.ex_eq d1,LN.ex_eq d2]
  grind
 obtain⟨r1,r2⟩:=Zrr _ hM h;refine⟨r1,?_⟩;rw[r2];refine Nat.le_trans (Int.natAbs_add_le _ _) ?_;rw[Int.natAbs_mul,Int.natAbs_mul];exact Nat.add_le_add (Nat.mul_le_mul_right _ n1) (Nat.mul_le_mul_right _ n2)
theorem Sml.scale{N M d:Nat}{l:List Rat}(hM:0<M)(h:Sml N M l)(k:Rat)(z:Int)(hd:0<d)(hk:k*(d:Rat)=(z:Rat)):Sml (N*z.natAbs) (M*d) (l.map fun q=>k*q):=by
 intro q hq;obtain⟨x,hx,rfl⟩:=List.mem_map.1 hq;obtain⟨d1,n1⟩:=h x hx;have e:(k*x)*((M*d:Nat):Rat)=((LN.ex M x*z:Int):Rat):=by
  rw[Rat.intCast_mul,LN.ex_eq d1,Rat.natCast_mul,<- hk]
  grind
 obtain⟨r1,r2⟩:=Zrr _ (Nat.mul_pos hM hd) e;refine⟨r1,?_⟩;rw[r2,Int.natAbs_mul];exact Nat.mul_le_mul_right _ n1
theorem Sml.good{N M:Nat}{ps:List Int}{l:List Rat}(hM:0<M)(h:Sml N M l)(hN:N<=Kb)(h1:∀ p∈ps,p∈Vm)(h2:ps.Nodup):Zh9 ps l:=by
 refine Zh9.small h1 h2 fun x hx=>?_
 obtain⟨_,q,hq,_,he⟩:=Qm hx;have e:x.2=LN.ex (Ko l) q:=he;obtain⟨m,hm⟩:=LN.tden_min (fun q hq=>(h q hq).1);have h3:=(h q hq).2;rw[hm,Nat.mul_comm,LN.ex_mul (LN.tden_dvd hq),Int.natAbs_mul,Int.natAbs_natCast] at h3;have di:0<m:=by
  rcases Nat.eq_zero_or_pos m with h0|h0
  ·rw[h0,Nat.mul_zero] at hm;omega
  ·exact h0
 rw[e];have h4:1*(LN.ex (Ko l) q).natAbs<=m*(LN.ex (Ko l) q).natAbs:=Nat.mul_le_mul_right _ di;omega
def Zuf (la lb:List Rat):List Rat:=Ki la lb ((1:Int):Rat) ((-1:Int):Rat)
theorem Zlk(la lb:List Rat)(i:Nat)(h1:i<la.length)(h2:i<lb.length)(h:i<(Zuf la lb).length):(Zuf la lb)[i]=la[i]-lb[i]:=by
 simp only[Zuf,Ki,List.getElem_zipWith]
 grind
theorem Zdy(la lb:List Rat)(h:la.length=lb.length):(Zuf la lb).length=la.length:=Qf _ _ _ _ h
theorem Qbl{ps:List Int}(hp:∀ p∈ps,0<p){la lb:List Rat}(h:la.length=lb.length):LN.sz ps (Zuf lb la) = - LN.sz ps (Zuf la lb):=by
 rw[<- LN.sz_neg hp];congr 1;refine List.ext_getElem (by simp[Zdy,h]) fun i h1 h2=>?_
 have i1:i<la.length:=by simp[Zdy,h] at h2;omega
 rw[Zlk lb la i (by omega) i1 h1,List.getElem_map,Zlk la lb i i1 (by omega)]
 grind
theorem Qdn{ps:List Int}{l:List Rat}(g:Zh9 ps l)(hn:ps.length<=100)(hl:l.length=ps.length)(h:∃ q∈l,q≠0):LN.sz ps l≠0:=by
 have gm:tlQ ps l≠[]:=by
  obtain⟨q,hq,h0⟩:=h;obtain⟨i,hi,rfl⟩:=List.mem_iff_getElem.1 hq;intro e;have hm:(ps[i]'(by omega),l[i].num*((Ko l/l[i].den:Nat):Int))∈tlQ ps l:=by
   unfold tlQ Kr;refine List.mem_filterMap.2 ⟨(ps[i]'(by omega),l[i]),?_,?_⟩
   ·exact List.mem_iff_getElem.2 ⟨i,by simp;omega,by simp⟩
   ·rw[if_neg];intro hz;exact h0 (Rat.num_eq_zero.1 hz)
  rw[e] at hm;cases hm
 show LN.signT (tlQ ps l)≠0
 rcases g.dec hn gm with h|h
 ·rw[Zi2 g.trt (by decide) gm h];decide
 ·rw[Zi3 g.trt (by decide) gm h];decide
theorem Zw3:∀ d,d<6->0<Zht d/\Zht d ∣ 12:=by decide
theorem Zat(z:Int)(d:Nat)(hd:0<d):mkRat z d*(d:Rat)=(z:Rat):=by
 rw[Rat.mkRat_eq_div];exact Rat.div_mul_cancel (by have:=Rat.natCast_pos.2 hd;grind)
theorem Zm9(n:Int)(d:Nat):∃ z:Int,Zih n d*((12:Nat):Rat)=(z:Rat)/\z.natAbs<=480:=by
 obtain⟨h1,m,hm⟩:=Zw3 (d%6) (Nat.mod_lt _ (by decide));have t1:=Int.tmod_lt_of_pos n (show (0:Int)<41 by decide);have t2:=Int.lt_tmod_of_pos n (show (0:Int)<41 by decide);refine⟨n.tmod 41*m,?_,?_⟩
 ·unfold Zih;have e:=Zat (n.tmod 41) (Zht (d%6)) h1;rw[hm,Rat.natCast_mul,<- Rat.mul_assoc,e,Rat.intCast_mul,Rat.intCast_natCast]
 ·have dY:m<=12:=by
   have:1*m<=Zht (d%6)*m:=Nat.mul_le_mul_right _ h1
   omega
  rw[Int.natAbs_mul,Int.natAbs_natCast];exact Nat.le_trans (Nat.mul_le_mul (show (n.tmod 41).natAbs<=40 by omega) dY) (by decide)
theorem Zjf(nu:Nat->Int)(de:Nat->Nat)(m:Nat):Sml 480 12 (Zaq nu de m):=by
 intro q hq;obtain⟨i,_,rfl⟩:=List.mem_map.1 hq;obtain⟨z,h,hz⟩:=Zm9 (nu i) (de i);obtain⟨r1,r2⟩:=Zrr z (by decide) h;exact⟨r1,by rw[r2];exact hz⟩
theorem Qao{a:Nat}(h:a<=1000000000):a<=Kb:=by
 have:(1000000000:Nat)<=Kb:=by decide
 omega
structure Zz9 (w:World) (s t s' t':ByteArray) (W0:World):Prop where
 fa:W0.heap[w.heap.size]?=some (.cells #[.string s,.string t] 101 (0,0))
 fb:W0.heap[w.heap.size+1]?=some (.cells #[.string s',.string t'] 101 (0,0))
 bel:Bw_ w W0
theorem Zz9.mk'(w:World)(s t s' t':ByteArray):Zz9 w s t s' t' ((w.alloc (.cells #[.string s,.string t] 101)).alloc (.cells #[.string s',.string t'] 101)):=by
 have hA:=heap_alloc_new w (.cells #[.string s,.string t] 101);have hB:=heap_alloc_new (w.alloc (.cells #[.string s,.string t] 101)) (.cells #[.string s',.string t'] 101);have e1:(w.alloc (.cells #[.string s,.string t] 101)).heap.size=w.heap.size+1:=by simp
 refine⟨?_,?_,?_⟩
 ·exact Kh hA ((Below.refl _ _).alloc nr_ _)
 ·rw[e1] at hB;exact hB
 ·exact((Below.refl _ _).alloc nr_ _).alloc (by simp) _
theorem Zz9.next{w W0 W:World}{s t s' t':ByteArray}(h:Zz9 w s t s' t' W0)(hb:Bw_ W0 W):Zz9 w s t s' t' W :=
 ⟨Kh h.fa hb,Kh h.fb hb,h.bel.trans (hb.mono h.bel.size)⟩
theorem Zzy{n m:Int}{d:Nat}(h:0<d):Zey (n*d) (m*d)=Zey n m:=by
 have h':(0:Int)<d:=by omega
 unfold Zey;have e1:n*(d:Int)<m*d↔n<m:=Int.mul_lt_mul_right h';have e2:n*(d:Int)=m*d↔n=m:=⟨fun h1=>Int.eq_of_mul_eq_mul_right (by omega) h1,fun h1=>by rw[h1]⟩
 by_cases h1:n<m
 ·rw[if_pos h1,if_pos (e1.2 h1)]
 ·rw[if_neg h1,if_neg (fun h=>h1 (e1.1 h))]
  by_cases h2:n=m
  ·rw[if_pos h2,if_pos (e2.2 h2)]
  ·rw[if_neg h2,if_neg (fun h=>h2 (e2.1 h))]
theorem Qa4{d e:Nat}(h:d≠e):((dec d).toList==(dec e).toList)=false:=by
 rw[beq_eq_false_iff_ne];intro h1;refine h (Zp2 ?_);rw[<- Yf,<- Yf];rw[<- Vp,<- Vp];exact h1
theorem Znn(w:World)(n m:Int)(d e:Nat)(hn:Zbo n)(hm:Zbo m)(hd:Num d)(he:Num e)(G':0<d)
  (gm:Num (n*e).natAbs) (Cv:Num (m*d).natAbs) (L:Qg w) :
  Kc Tryz.prog 261 #[fv n d,fv m e] w (.int .i64 (Zey (n*e) (m*d))):=by
 have H3:=hd_ (Zz9.mk' w (itx n) (dec d) (itx m) (dec e));have HL:=hd_ (L.below H3.o.bel);clear L;obtain⟨v,hv⟩:∃ v,Zey (n*e) (m*d)=v:=⟨_,rfl⟩;have Hv:=hd_ hv;rw[hv];unfold Kc;have GU:Hid (∀ W,Below ((w.alloc (.cells #[.string (itx n),.string (dec d)] 101)).alloc (.cells #[.string (itx m),.string (dec e)] 101)).heap.size ((w.alloc (.cells #[.string (itx n),.string (dec d)] 101)).alloc (.cells #[.string (itx m),.string (dec e)] 101)) W->∀ d' os,Calls Tryz.prog 14 #[.string (itx n),.string (dec e)] (Go.Sort.grow (redrawn W d') os) fun e' w'=>e' = .returned (.string (itx (n*e)))/\∃ p:Regrown,w'=Go.Sort.grow (redrawn W p.d) p.os):=fun W hW d' os=>by
  have:=Yv (Go.Sort.grow (redrawn W d') os) n (e:Int) hn (show Num _ from he) gm ((HL.o.below hW).below (below_regrown W d' os))
  rw[Kg] at this;exact Calls.regrown_of this
 have GJ:Hid (∀ W,Below ((w.alloc (.cells #[.string (itx n),.string (dec d)] 101)).alloc (.cells #[.string (itx m),.string (dec e)] 101)).heap.size ((w.alloc (.cells #[.string (itx n),.string (dec d)] 101)).alloc (.cells #[.string (itx m),.string (dec e)] 101)) W->∀ d' os,Calls Tryz.prog 14 #[.string (itx m),.string (dec d)] (Go.Sort.grow (redrawn W d') os) fun e' w'=>e' = .returned (.string (itx (m*d)))/\∃ p:Regrown,w'=Go.Sort.grow (redrawn W p.d) p.os):=fun W hW d' os=>by
  have:=Yv (Go.Sort.grow (redrawn W d') os) m (d:Int) hm (show Num _ from hd) Cv ((HL.o.below hW).below (below_regrown W d' os))
  rw[Kg] at this;exact Calls.regrown_of this
 have fT:Hid (∀ W d' os,Calls Tryz.prog 17 #[.string (itx (n*e)),.string (itx (m*d))] (Go.Sort.grow (redrawn W d') os) fun e' w'=>e' = .returned (.int .i64 v)/\∃ p:Regrown,w'=Go.Sort.grow (redrawn W p.d) p.os):=fun W d' os=>by
  have:=Zde (Go.Sort.grow (redrawn W d') os) (n*e) (m*d) gm Cv
  rw[hv] at this;exact Calls.regrown_of this
 have eS:Hid (d=e->∀ W,Kc Tryz.prog 17 #[.string (itx n),.string (itx m)] W (.int .i64 v)):=fun h W=>by
  have:=Zde W n m hn hm
  rw[<- Zzy G',show ((d:Nat):Int)=d from rfl] at this;subst h;rw[hv] at this;exact this
 clear hv
 by_cases h1:(itx n).size<=9/\(dec d).size<=9
 ·have gF:=hd_ (Zh n d hn hd h1)
  by_cases h2:(itx m).size<=9/\(dec e).size<=9
  ·have gP:=hd_ (Zh m e hm he h2);have q1:=Zc n 9 (by decide) h1.1;have q2:=Zc m 9 (by decide) h2.1;have q3:=(Ks d 9 (by decide)).1 (by rw[<- Qc];exact h1.2);have q4:=(Ks e 9 (by decide)).1 (by rw[<- Qc];exact h2.2);have q5:(n*e).natAbs<=1000000000*1000000000:=by rw[Int.natAbs_mul];exact Nat.mul_le_mul (by omega) (by omega)
   have q7:(m*d).natAbs<=1000000000*1000000000:=by rw[Int.natAbs_mul];exact Nat.mul_le_mul (by omega) (by omega)
   have fH:IntKind.i64.wrap (n*e)=n*e:=iw_ _ (by omega);have dX:IntKind.i64.wrap (m*d)=m*d:=iw_ _ (by omega);have Gn:n*e<m*d->v = -1:=fun h=>by rw[<- Hv.o];unfold Zey;rw[if_pos h]
   have fY:m*d<n*e->v=1:=fun h=>by rw[<- Hv.o];unfold Zey;rw[if_neg (by omega),if_neg (by omega)]
   have gH:n*e=m*d->v=0:=fun h=>by rw[<- Hv.o];unfold Zey;rw[if_neg (by omega),if_pos h]
   unfold fv at gF gP ⊢;have BA:=hd_ Gn;have io:=hd_ fY;have AV:=hd_ gH;clear GU GJ fT eS q1 q2 q3 q4 q5 q7 h1 h2 gm Cv Gn fY gH Hv;go_enter Tryz.func261,Tryz.ntmps261;obtain⟨k0,k1,-,-⟩:=Ka H3.o.fa;obtain⟨k2,k3,-,-⟩:=Ka H3.o.fb;go_wp2_with fail;generalize (w.alloc (.cells #[.string (itx n),.string (dec d)] 101)).alloc (.cells #[.string (itx m),.string (dec e)] 101)=W0 at *;clear k0 k1 k2 k3;refine cm_ (gF.o _) ?_;rintro e_ w1 ⟨rfl,HU⟩;have H6:=hd_ HU;clear HU gF;obtain⟨k0,k1,-,-⟩:=Ka (H3.o.next H6.o).fa;obtain⟨k2,k3,-,-⟩:=Ka (H3.o.next H6.o).fb;go_wp2_with fail;clear k0 k1 k2 k3;refine cm_ (gP.o _) ?_;rintro e_ w2 ⟨rfl,H7⟩;have H9:=bt_ H6 H7;clear H7 H6 gP;have B5:=hd_ (H3.o.bel.trans (H9.o.mono H3.o.bel.size))
   by_cases c1:n*(e:Int)<m*(d:Int)
   ·go_wp2_with fail;go_ret;exact⟨by rw[BA.o c1];rfl,B5.o⟩
   ·by_cases c2:m*(d:Int)<n*(e:Int)
    ·go_wp2_with fail;go_ret;exact⟨by rw[io.o c2];rfl,B5.o⟩
    ·go_wp2_with fail;go_ret;exact⟨by rw[AV.o (by omega)];rfl,B5.o⟩
  ·obtain⟨x,y,Gp⟩:=Zi m e hm he h2;have gP:=hd_ Gp;unfold fv at gF gP ⊢;clear h1 h2 Gp gm Cv;go_enter Tryz.func261,Tryz.ntmps261;obtain⟨k0,k1,-,-⟩:=Ka H3.o.fa;obtain⟨k2,k3,-,-⟩:=Ka H3.o.fb;go_wp2_with fail;generalize (w.alloc (.cells #[.string (itx n),.string (dec d)] 101)).alloc (.cells #[.string (itx m),.string (dec e)] 101)=W0 at *;clear k0 k1 k2 k3;refine cm_ (gF.o _) ?_;rintro e_ w1 ⟨rfl,HU⟩;have H6:=hd_ HU;clear HU gF;obtain⟨k0,k1,-,-⟩:=Ka (H3.o.next H6.o).fa;obtain⟨k2,k3,-,-⟩:=Ka (H3.o.next H6.o).fb;go_wp2_with fail;clear k0 k1 k2 k3;refine cm_ (gP.o _) ?_;rintro e_ w2 ⟨rfl,H7⟩;have H9:=bt_ H6 H7;clear H7 H6 gP
   by_cases hde:d=e
   ·have Hq:=hd_ (eS.o hde);obtain⟨k0,k1,-,-⟩:=Ka (H3.o.next H9.o).fa;obtain⟨k2,k3,-,-⟩:=Ka (H3.o.next H9.o).fb;subst hde;clear GU GJ fT eS;go_wp2_with fail;clear k0 k1 k2 k3;refine cm_ (Hq.o _) ?_;rintro e_ w5 ⟨rfl,hb_⟩;have B5:=hd_ (H3.o.bel.trans ((bu_ H9 hb_).mono H3.o.bel.size));clear hb_ Hq;go_wp2_with fail;go_ret;exact⟨rfl,B5.o⟩
   ·have hq:=Qa4 hde;obtain⟨k0,k1,-,-⟩:=Ka (H3.o.next H9.o).fa;obtain⟨k2,k3,-,-⟩:=Ka (H3.o.next H9.o).fb;have q0:=cell_regrown k0;have q1:=cell_regrown k1;have q2:=cell_regrown k2;have q3:=cell_regrown k3;have gZ:=GU.o w2 H9.o;have Gb:=GJ.o w2 H9.o;have Gr:=fT.o w2;clear GU GJ fT eS hde;go_wp2_with fail;clear k0 k1 k2 k3;refine wp_region_quiet_below (by kernel_rfl) (by kernel_rfl) ?_
    repeat (first | go_big_quiet_step (first | with_reducible exact gZ _ _ | with_reducible exact Gb _ _ | with_reducible exact Gr _ _) | quiet_step (first | with_reducible exact gZ _ _ | with_reducible exact Gb _ _ | with_reducible exact Gr _ _))
    refine wq_ ?_;intro w8 hw8;obtain⟨⟨dq,osq⟩,rfl⟩:=hw8;have B5:=hd_ (H3.o.bel.trans ((H9.o.trans ((below_regrown w2 dq osq).mono H9.o.size)).mono H3.o.bel.size));generalize Go.Sort.grow (redrawn w2 dq) osq=w8 at *;clear gZ Gb Gr q0 q1 q2 q3;go_wp2;go_ret;exact⟨rfl,B5.o⟩
 ·obtain⟨x,y,Ga⟩:=Zi n d hn hd h1;have gF:=hd_ Ga;unfold fv at gF ⊢;clear h1 Ga gm Cv;go_enter Tryz.func261,Tryz.ntmps261;obtain⟨k0,k1,-,-⟩:=Ka H3.o.fa;obtain⟨k2,k3,-,-⟩:=Ka H3.o.fb;go_wp2_with fail;generalize (w.alloc (.cells #[.string (itx n),.string (dec d)] 101)).alloc (.cells #[.string (itx m),.string (dec e)] 101)=W0 at *;clear k0 k1 k2 k3;refine cm_ (gF.o _) ?_;rintro e_ w1 ⟨rfl,HU⟩;have H6:=hd_ HU;clear HU gF
  by_cases hde:d=e
  ·have Hq:=hd_ (eS.o hde);obtain⟨k0,k1,-,-⟩:=Ka (H3.o.next H6.o).fa;obtain⟨k2,k3,-,-⟩:=Ka (H3.o.next H6.o).fb;subst hde;clear GU GJ fT eS;go_wp2_with fail;clear k0 k1 k2 k3;refine cm_ (Hq.o _) ?_;rintro e_ w5 ⟨rfl,hb_⟩;have B5:=hd_ (H3.o.bel.trans ((bu_ H6 hb_).mono H3.o.bel.size));clear hb_ Hq;go_wp2_with fail;go_ret;exact⟨rfl,B5.o⟩
  ·have hq:=Qa4 hde;obtain⟨k0,k1,-,-⟩:=Ka (H3.o.next H6.o).fa;obtain⟨k2,k3,-,-⟩:=Ka (H3.o.next H6.o).fb;have q0:=cell_regrown k0;have q1:=cell_regrown k1;have q2:=cell_regrown k2;have q3:=cell_regrown k3;have gZ:=GU.o w1 H6.o;have Gb:=GJ.o w1 H6.o;have Gr:=fT.o w1;clear GU GJ fT eS hde;go_wp2_with fail;clear k0 k1 k2 k3;refine wp_region_quiet_below (by kernel_rfl) (by kernel_rfl) ?_
   repeat (first | go_big_quiet_step (first | with_reducible exact gZ _ _ | with_reducible exact Gb _ _ | with_reducible exact Gr _ _) | quiet_step (first | with_reducible exact gZ _ _ | with_reducible exact Gb _ _ | with_reducible exact Gr _ _))
   refine wq_ ?_;intro w8 hw8;obtain⟨⟨dq,osq⟩,rfl⟩:=hw8;have B5:=hd_ (H3.o.bel.trans ((H6.o.trans ((below_regrown w1 dq osq).mono H6.o.size)).mono H3.o.bel.size));generalize Go.Sort.grow (redrawn w1 dq) osq=w8 at *;clear gZ Gb Gr q0 q1 q2 q3;go_wp2;go_ret;exact⟨rfl,B5.o⟩
def Zf5 (a b:Rat):Rat:=if b<a then b else a
def Zf6 (a b:Rat):Rat:=if a<b then b else a
theorem Zr9(w:World)(a b:Rat)(D E:Nat)(ha:Sm D a)(hb:Sm E b)(h6:D+E+2<=1000000)(L:Qg w):
  Kc Tryz.prog 261 #[fr a,fr b] w (.int .i64 (Zey (a.num*b.den) (b.num*a.den))):=by
 have p1:=ha.pos;have p2:=hb.pos;have h1:(a.num*(b.den:Int)).natAbs<10^(D+E):=by rw[Int.natAbs_mul,Int.natAbs_natCast];exact Qi ha.1 hb.2
 have h2:(b.num*(a.den:Int)).natAbs<10^(D+E):=by rw[Int.natAbs_mul,Int.natAbs_natCast,Nat.add_comm];exact Qi hb.1 ha.2
 exact Znn w a.num b.num a.den b.den (Ku ha.1 p1 (by omega)) (Ku hb.1 p2 (by omega)) (Ku ha.2 p1 (by omega)) (Ku hb.2 p2 (by omega)) a.den_pos
  (Ku h1 (by omega) (by omega)) (Ku h2 (by omega) (by omega)) L
theorem Qat(a b:Rat):a<b↔a.num*b.den<b.num*a.den:=Rat.lt_iff a b
theorem Zw7(a b:Rat):(Zey (a.num*b.den) (b.num*a.den)<0↔a<b)/\(0<Zey (a.num*b.den) (b.num*a.den)↔b<a):=by
 rw[Qat,Qat];unfold Zey;split
 ·constructor<;>omega
 ·split
  ·constructor<;>omega
  ·constructor<;>omega
theorem Zk0(w:World)(a b:Rat)(D E:Nat)(ha:Sm D a)(hb:Sm E b)(h6:D+E+2<=1000000)(L:Qg w):
  Kc Tryz.prog 208 #[fr a,fr b] w (fr (Zf5 a b)):=by
 obtain⟨v,hv⟩:∃ v,Zey (b.num*a.den) (a.num*b.den)=v:=⟨_,rfl⟩;have H3:=hd_ (Zil.mk' w (itx a.num) (dec a.den) (itx b.num) (dec b.den));have HC:=hd_ (fun W hW=>Zr9 W b a E D hb ha (by omega) (L.below (H3.o.next (W:=W) hW).bel));rw[hv] at HC;have gd:=(Zw7 b a).1;rw[hv] at gd;have eE:Hid (Zf5 a b=if v<0 then b else a):=by
  show _=_
  unfold Zf5
  by_cases h:v<0
  ·rw[if_pos h,if_pos (gd.1 h)]
  ·rw[if_neg h,if_neg fun hc=>h (gd.2 hc)]
 clear hv gd L ha hb h6;unfold Kc;unfold fr fv at HC ⊢;go_enter Tryz.func208,Tryz.ntmps208;obtain⟨k0,k1,-,-⟩:=Ka H3.o.fa;obtain⟨k2,k3,-,-⟩:=Ka H3.o.fb;go_wp2_with fail;generalize ((w.alloc (.cells #[.string (itx a.num),.string (dec a.den)] 101)).alloc (.cells #[.string (itx b.num),.string (dec b.den)] 101)).alloc (.cells #[.string ⟨#[]⟩,.string ⟨#[]⟩] 101)=W0 at *;clear k0 k1 k2 k3;refine cm_ (HC.o _ (Below.refl _ _)) ?_;rintro e w1 ⟨rfl,HU⟩;have H4:=hd_ (H3.o.next HU);clear HU HC H3;obtain⟨k0,k1,-,-⟩:=Ka H4.o.fa;obtain⟨k2,k3,-,-⟩:=Ka H4.o.fb;obtain⟨k4,k5,f4,f5⟩:=Ka H4.o.fr;have gY:=hd_ H4.o.bel;clear H4
 by_cases c1:v<0
 ·have hm:Zf5 a b=b:=by rw[eE.o,if_pos c1]
  have Hm:=hd_ hm;clear hm eE;go_wp2;obtain⟨c0,c1,hb3⟩:=Kq (B:=w.heap.size) (.string (itx b.num)) (.string (dec b.den)) k4 k5 (by omega) gY.o;generalize (w1.setCell ⟨w.heap.size+1+1,0,none⟩ (.string (itx b.num))).setCell ⟨w.heap.size+1+1,1,none⟩ (.string (dec b.den))=w9 at *;exact bodyPost_ret (v := .agg #[.string (itx b.num),.string (dec b.den)]) (by simp[results,Tryz.results208,go_sem,c0,c1]) rfl ⟨by rw[Hm.o],hb3⟩
 ·have hm:Zf5 a b=a:=by rw[eE.o,if_neg c1]
  have Hm:=hd_ hm;clear hm eE;go_wp2;obtain⟨c0,c1,hb3⟩:=Kq (B:=w.heap.size) (.string (itx a.num)) (.string (dec a.den)) k4 k5 (by omega) gY.o;generalize (w1.setCell ⟨w.heap.size+1+1,0,none⟩ (.string (itx a.num))).setCell ⟨w.heap.size+1+1,1,none⟩ (.string (dec a.den))=w9 at *;exact bodyPost_ret (v := .agg #[.string (itx a.num),.string (dec a.den)]) (by simp[results,Tryz.results208,go_sem,c0,c1]) rfl ⟨by rw[Hm.o],hb3⟩
theorem Zk1(w:World)(a b:Rat)(D E:Nat)(ha:Sm D a)(hb:Sm E b)(h6:D+E+2<=1000000)(L:Qg w):
  Kc Tryz.prog 209 #[fr a,fr b] w (fr (Zf6 a b)):=by
 obtain⟨v,hv⟩:∃ v,Zey (b.num*a.den) (a.num*b.den)=v:=⟨_,rfl⟩;have H3:=hd_ (Zil.mk' w (itx a.num) (dec a.den) (itx b.num) (dec b.den));have HC:=hd_ (fun W hW=>Zr9 W b a E D hb ha (by omega) (L.below (H3.o.next (W:=W) hW).bel));rw[hv] at HC;have gd:=(Zw7 b a).2;rw[hv] at gd;have eE:Hid (Zf6 a b=if 0<v then b else a):=by
  show _=_
  unfold Zf6
  by_cases h:0<v
  ·rw[if_pos h,if_pos (gd.1 h)]
  ·rw[if_neg h,if_neg fun hc=>h (gd.2 hc)]
 clear hv gd L ha hb h6;unfold Kc;unfold fr fv at HC ⊢;go_enter Tryz.func209,Tryz.ntmps209;obtain⟨k0,k1,-,-⟩:=Ka H3.o.fa;obtain⟨k2,k3,-,-⟩:=Ka H3.o.fb;go_wp2_with fail;generalize ((w.alloc (.cells #[.string (itx a.num),.string (dec a.den)] 101)).alloc (.cells #[.string (itx b.num),.string (dec b.den)] 101)).alloc (.cells #[.string ⟨#[]⟩,.string ⟨#[]⟩] 101)=W0 at *;clear k0 k1 k2 k3;refine cm_ (HC.o _ (Below.refl _ _)) ?_;rintro e w1 ⟨rfl,HU⟩;have H4:=hd_ (H3.o.next HU);clear HU HC H3;obtain⟨k0,k1,-,-⟩:=Ka H4.o.fa;obtain⟨k2,k3,-,-⟩:=Ka H4.o.fb;obtain⟨k4,k5,f4,f5⟩:=Ka H4.o.fr;have gY:=hd_ H4.o.bel;clear H4
 by_cases c1:0<v
 ·have hm:Zf6 a b=b:=by rw[eE.o,if_pos c1]
  have Hm:=hd_ hm;clear hm eE;go_wp2;obtain⟨c0,c1,hb3⟩:=Kq (B:=w.heap.size) (.string (itx b.num)) (.string (dec b.den)) k4 k5 (by omega) gY.o;generalize (w1.setCell ⟨w.heap.size+1+1,0,none⟩ (.string (itx b.num))).setCell ⟨w.heap.size+1+1,1,none⟩ (.string (dec b.den))=w9 at *;exact bodyPost_ret (v := .agg #[.string (itx b.num),.string (dec b.den)]) (by simp[results,Tryz.results209,go_sem,c0,c1]) rfl ⟨by rw[Hm.o],hb3⟩
 ·have hm:Zf6 a b=a:=by rw[eE.o,if_neg c1]
  have Hm:=hd_ hm;clear hm eE;go_wp2;obtain⟨c0,c1,hb3⟩:=Kq (B:=w.heap.size) (.string (itx a.num)) (.string (dec a.den)) k4 k5 (by omega) gY.o;generalize (w1.setCell ⟨w.heap.size+1+1,0,none⟩ (.string (itx a.num))).setCell ⟨w.heap.size+1+1,1,none⟩ (.string (dec a.den))=w9 at *;exact bodyPost_ret (v := .agg #[.string (itx a.num),.string (dec a.den)]) (by simp[results,Tryz.results209,go_sem,c0,c1]) rfl ⟨by rw[Hm.o],hb3⟩
def Zig (a:Rat):Int:=(a+1/2).floor
theorem Zwj:Sm 1 (1/2:Rat):=⟨by decide +kernel,by decide +kernel⟩
theorem Qcm:fr (1/2:Rat) = .agg #[.string ⟨#[49]⟩,.string ⟨#[50]⟩]:=by
 have h1:(1/2:Rat).num=1:=by decide +kernel
 have h2:(1/2:Rat).den=2:=by decide +kernel
 unfold fr fv;rw[h1,h2,show itx 1=dec 1 from Kg 1,Yo,Zll]
theorem Zyt(w:World)(a:Rat)(D:Nat)(ha:Sm D a)(h6:D+5<=1000000)(L:Qg w):
  Kc Tryz.prog 249 #[fr a] w (.string (itx (Zig a))):=by
 have gC:=hd_ ((Below.refl w.heap.size w).alloc nr_ (.cells #[.string (itx a.num),.string (dec a.den)] 101));have gi:Hid ((w.alloc (.cells #[.string (itx a.num),.string (dec a.den)] 101)).heap[w.heap.size]?=some (.cells #[.string (itx a.num),.string (dec a.den)] 101 (0,0))):=heap_alloc_new w _;have HA:=hd_ (Zxy (w.alloc (.cells #[.string (itx a.num),.string (dec a.den)] 101)) a (1/2) D 1 ha Zwj (by omega) (L.below gC.o));rw[Qcm] at HA;have HF:=hd_ (fun W (hW:Bw_ w W)=>Qa3 W (a+1/2) (D+1+1) (ha.add Zwj) (by omega) (L.below hW));clear L ha h6;unfold Kc;unfold Zig;generalize a+1/2=s at *;unfold fr fv at HA HF ⊢;go_enter Tryz.func249,Tryz.ntmps249;obtain⟨k0,k1,-,-⟩:=Ka gi.o;go_wp2_with fail;generalize w.alloc (.cells #[.string (itx a.num),.string (dec a.den)] 101)=W0 at *;clear k0 k1;refine cm_ HA.o ?_;rintro e w1 ⟨rfl,HU⟩;have B1:=bt_ gC HU;clear HU HA;go_wp2_with fail;refine cm_ (HF.o _ B1.o) ?_;rintro e w2 ⟨rfl,H7⟩;have B2:=bt_ B1 H7;clear H7 HF;go_wp2_with fail;go_ret;exact⟨rfl,B2.o⟩
theorem Ztn{p N a b:Nat}(h1:Qc8 p N a)(h2:Qc8 p (2*N) b):b=2*a\/b=2*a+1:=by
 have hP:p^(2*N)=p^N*p^N:=by rw[Nat.two_mul,Nat.pow_add]
 have e1:2^(2*a)<=p^(2*N):=by
  rw[hP,Nat.two_mul,Nat.pow_add];exact Nat.mul_le_mul h1.1 h1.1
 have e2:p^(2*N)<2^(2*a+2):=by
  rw[hP,show 2*a+2=(a+1)+(a+1) by omega,Nat.pow_add];exact Nat.mul_lt_mul'' h1.2 h1.2
 have f1:=(Nat.pow_lt_pow_iff_right (by decide)).1 (Nat.lt_of_le_of_lt e1 h2.2);have f2:=(Nat.pow_lt_pow_iff_right (by decide)).1 (Nat.lt_of_le_of_lt h2.1 e2);omega
theorem Zk4{p n:Nat}(hp:p∈Za4)(hn:n+1<=1056):lgN p (n+1)=2*lgN p n\/lgN p (n+1)=2*lgN p n+1:=by
 have h2:=Zrg hp hn;rw[Nat.pow_succ,Nat.mul_comm] at h2;exact Ztn (Zrg hp (by omega)) h2
theorem Zo8{p n:Nat}(hp:p=2\/p∈Za4):∀ d,n+d<=1056->lgN p (n+d)/2^d=lgN p n
 | 0,_=>by simp
 | d+1,h=>by
  have ih:=Zo8 hp d (n:=n) (by omega);rw[<- Nat.add_assoc,Nat.pow_succ,Nat.mul_comm,<- Nat.div_div_eq_div_mul];have e:lgN p (n+d+1)/2=lgN p (n+d):=by
   rcases hp with rfl|hp
   ·rw[show ((2:Nat):Int)=2 from rfl,Zq,Zq,Nat.pow_succ];omega
   ·rcases Zk4 hp (n:=n+d) (by omega) with e | e<;>rw[e]<;>omega
  rw[e,ih]
def xE (p:Int) (n:Nat):Rat:=if p=2 then 1 else mkRat ((lgN p n:Nat):Int) (2^n)
def yE (p:Int) (n:Nat):Rat:=if p=2 then 1 else mkRat ((lgN p n+1:Nat):Int) (2^n)
def loE (n:Nat):List Int->List Rat->Rat
 | p::ps,c::l=>Zf5 (c*xE p n) (c*yE p n)+loE n ps l
 | _,_=>0
def hiE (n:Nat):List Int->List Rat->Rat
 | p::ps,c::l=>Zf6 (c*xE p n) (c*yE p n)+hiE n ps l
 | _,_=>0
theorem Za2(n:Nat):((2^n:Nat):Rat)=2^n:=by
 rw[LN.natCast_pow];rfl
theorem Za3(n:Nat):(0:Rat)<2^n:=Rat.pow_pos (by decide)
theorem Zqi(p:Int)(n:Nat):xE p n*2^n=((lgN p n:Nat):Rat):=by
 unfold xE
 by_cases h:p=2
 ·rw[if_pos h,h,Zq,Za2,Rat.one_mul]
 ·rw[if_neg h,<- Za2,<- Rat.intCast_natCast (lgN p n),Zat _ _ (Nat.two_pow_pos n)]
theorem Zqh(p:Int)(n:Nat):yE p n*2^n=((LN.hiL (lf n) p:Nat):Rat):=by
 unfold yE LN.hiL
 by_cases h:p=2
 ·rw[if_pos h,if_pos h,h];unfold lf;rw[Zq,Za2,Rat.one_mul]
 ·rw[if_neg h,if_neg h];unfold lf;rw[<- Za2,<- Rat.intCast_natCast (lgN p n+1),Zat _ _ (Nat.two_pow_pos n)]
theorem Zcn{a b:Rat}{n:Nat}(h:a*2^n<=b*2^n):a<=b:=Rat.le_of_mul_le_mul_right h (Za3 n)
theorem Zd4(p:Int)(n:Nat):xE p n<=yE p n:=by
 refine Zcn (n:=n) ?_;rw[Zqi,Zqh];refine Rat.natCast_le_natCast.2 ?_;unfold LN.hiL lf;split<;>omega
theorem Zo2{c x y:Rat}(h:x<=y)(hc:c<0):Zf5 (c*x) (c*y)=c*y/\Zf6 (c*x) (c*y)=c*x:=by
 have h1:c*y<=c*x:=by
  have:=Rat.mul_le_mul_of_nonneg_left h (c := -c) (by grind)
  grind
 unfold Zf5 Zf6;refine⟨?_,?_⟩
 ·split
  ·rfl
  ·grind
 ·split
  ·grind
  ·rfl
theorem Zkz{c x y:Rat}(h:x<=y)(hc:0<=c):Zf5 (c*x) (c*y)=c*x/\Zf6 (c*x) (c*y)=c*y:=by
 have h1:c*x<=c*y:=Rat.mul_le_mul_of_nonneg_left h hc;unfold Zf5 Zf6;refine⟨?_,?_⟩
 ·split
  ·grind
  ·rfl
 ·split
  ·rfl
  ·grind
theorem Zce(D:Nat)(p:Int)(ps:List Int)(c:Rat)(l:List Rat):Kr D (p::ps) (c::l)=if c.num=0 then Kr D ps l else (p,LN.ex D c)::Kr D ps l:=by
 unfold Kr LN.ex;rw[List.zip_cons_cons,List.filterMap_cons]
 by_cases h:c.num=0
 ·simp[h]
 ·simp[h]
theorem Zry(f:Int->Nat)(x:Int×Int)(l:List (Int×Int)):LN.eLo f (x::l)=(if x.2<0 then x.2*(LN.hiL f x.1:Int) else x.2*(f x.1:Int))+LN.eLo f l:=by
 unfold LN.eLo;rw[List.map_cons,List.sum_cons]
theorem Zrz(f:Int->Nat)(x:Int×Int)(l:List (Int×Int)):LN.eHi f (x::l)=(if x.2<0 then x.2*(f x.1:Int) else x.2*(LN.hiL f x.1:Int))+LN.eHi f l:=by
 unfold LN.eHi;rw[List.map_cons,List.sum_cons]
theorem Zld{D:Nat}(hD:0<D)(n:Nat):∀ (ps:List Int) (l:List Rat),(∀ q∈l,q.den ∣ D) ->
  ((LN.eLo (lf n) (Kr D ps l):Int):Rat)=loE n ps l*D*2^n/\((LN.eHi (lf n) (Kr D ps l):Int):Rat)=hiE n ps l*D*2^n
 | [],_,_=>by
  simp[Kr,LN.eLo,LN.eHi,loE,hiE,Rat.zero_mul]
 | _::_,[],_=>by
  simp[Kr,LN.eLo,LN.eHi,loE,hiE,Rat.zero_mul]
 | p::ps,c::l,h=>by
  obtain⟨i1,i2⟩:=Zld hD n ps l fun q hq=>h q (List.mem_cons_of_mem _ hq)
  have hc:=LN.ex_eq (h c List.mem_cons_self);have hx:xE p n*2^n=((lf n p:Nat):Rat):=Zqi p n;have hy:=Zqh p n;have ep:=Zd4 p n;rw[Zce];simp only[loE,hiE]
  by_cases h0:c.num=0
  ·rw[if_pos h0,i1,i2];have c0:c=0:=Rat.num_eq_zero.1 h0;obtain⟨m1,m2⟩:=Zkz ep (show (0:Rat)<=c by rw[c0];decide);rw[m1,m2,c0,Rat.zero_mul,Rat.zero_mul,Rat.zero_add,Rat.zero_add];exact⟨rfl,rfl⟩
  ·rw[if_neg h0,Zry,Zrz]
   dsimp only
   have au:(0:Rat)<(D:Rat):=Rat.natCast_pos.2 hD
   by_cases hn:LN.ex D c<0
   ·have cn:c<0:=by
     have:((LN.ex D c:Int):Rat)<0:=by rw[<- Rat.intCast_zero];exact Rat.intCast_lt_intCast.2 hn
     rw[hc] at this;refine Rat.not_le.1 fun h=>?_
     have:=Rat.mul_nonneg h (Rat.le_of_lt au)
     grind
    obtain⟨m1,m2⟩:=Zo2 ep cn;rw[if_pos hn,if_pos hn,m1,m2,Rat.intCast_add,Rat.intCast_add,i1,i2,Rat.intCast_mul,Rat.intCast_mul,hc,Rat.intCast_natCast,Rat.intCast_natCast,<- hx,<- hy];constructor<;>grind
   ·have cp:0<=c:=by
     refine Rat.not_lt.1 fun h=>hn ?_
     have h1:c*D<0:=by
      have:=Rat.mul_pos (show (0:Rat) < -c by grind) au
      grind
     rw[<- hc,<- Rat.intCast_zero] at h1;exact Rat.intCast_lt_intCast.1 h1
    obtain⟨m1,m2⟩:=Zkz ep cp;rw[if_neg hn,if_neg hn,m1,m2,Rat.intCast_add,Rat.intCast_add,i1,i2,Rat.intCast_mul,Rat.intCast_mul,hc,Rat.intCast_natCast,Rat.intCast_natCast,<- hx,<- hy];constructor<;>grind
theorem Qfo{p n:Nat}(hp:p=2\/p∈Za4)(hn:n+1<=1056):xE p n<=xE p (n+1)/\yE p (n+1)<=yE p n:=by
 rcases hp with rfl|hp
 ·unfold xE yE;rw[show ((2:Nat):Int)=2 from rfl];simp only[if_true];exact⟨Rat.le_refl,Rat.le_refl⟩
 ·have h2:=(Zas hp).2.1;have gm:¬ ((p:Nat):Int)=2:=by have:=(Zas hp).1;omega
  have e1:=Zqi p n;have e2:=Zqh p n;have e3:=Zqi p (n+1);have e4:=Zqh p (n+1);unfold LN.hiL lf at e2 e4;rw[if_neg gm] at e2 e4;have hs:(2:Rat)^(n+1)=2^n*2:=Rat.pow_succ ..;constructor
  ·refine Zcn (n:=n+1) ?_;rw[e3,hs,<- Rat.mul_assoc,e1];have h3:((2*lgN p n:Nat):Rat)<=((lgN p (n+1):Nat):Rat):=Rat.natCast_le_natCast.2 (by rcases Zk4 hp hn with e | e<;>omega);rw[Rat.natCast_mul] at h3;have:((2:Nat):Rat)=2:=rfl
   grind
  ·refine Zcn (n:=n+1) ?_;rw[e4,hs,<- Rat.mul_assoc,e2];have h3:((lgN p (n+1)+1:Nat):Rat)<=((2*(lgN p n+1):Nat):Rat):=Rat.natCast_le_natCast.2 (by rcases Zk4 hp hn with e | e<;>omega);rw[Rat.natCast_mul] at h3;have:((2:Nat):Rat)=2:=rfl
   grind
theorem Zwt{n:Nat}(hn:n+1<=1056):∀ (ps:List Int) (l:List Rat),(∀ p∈ps,∃ q:Nat,p=q/\(q=2\/q∈Za4))->loE n ps l<=loE (n+1) ps l/\hiE (n+1) ps l<=hiE n ps l
 | [],_,_=>by simp[loE,hiE]
 | _::_,[],_=>by simp[loE,hiE]
 | p::ps,c::l,h=>by
  obtain⟨i1,i2⟩:=Zwt hn ps l fun q hq=>h q (List.mem_cons_of_mem _ hq)
  obtain⟨q,rfl,hq⟩:=h p List.mem_cons_self;obtain⟨u1,u2⟩:=Qfo hq hn;simp only[loE,hiE];rcases Decidable.em (c<0) with hc|hc
  ·obtain⟨m1,m2⟩:=Zo2 (Zd4 q n) hc;obtain⟨m3,m4⟩:=Zo2 (Zd4 q (n+1)) hc;rw[m1,m2,m3,m4];have a1:=Rat.mul_le_mul_of_nonneg_left u1 (c := -c) (by grind);have a2:=Rat.mul_le_mul_of_nonneg_left u2 (c := -c) (by grind);constructor<;>grind
  ·have hc:=Rat.not_lt.1 hc;obtain⟨m1,m2⟩:=Zkz (Zd4 q n) hc;obtain⟨m3,m4⟩:=Zkz (Zd4 q (n+1)) hc;rw[m1,m2,m3,m4];have a1:=Rat.mul_le_mul_of_nonneg_left u1 hc;have a2:=Rat.mul_le_mul_of_nonneg_left u2 hc;constructor<;>grind
theorem Zle(n:Nat):∀ (ps:List Int) (l:List Rat),loE n ps l<=hiE n ps l
 | [],_=>by simp[loE,hiE]
 | _::_,[]=>by simp[loE,hiE]
 | p::ps,c::l=>by
  have ih:=Zle n ps l;simp only[loE,hiE];have h1:Zf5 (c*xE p n) (c*yE p n)<=Zf6 (c*xE p n) (c*yE p n):=by
   unfold Zf5 Zf6;split<;>split<;>grind
  grind
theorem Zlb{n:Nat}{ps:List Int}{l:List Rat}(h:∀ p∈ps,∃ q:Nat,p=q/\(q=2\/q∈Za4)):∀ d,n+d<=1056->loE n ps l<=loE (n+d) ps l/\hiE (n+d) ps l<=hiE n ps l
 | 0,_=>⟨Rat.le_refl,Rat.le_refl⟩
 | d+1,hd=>by
  obtain⟨i1,i2⟩:=Zlb h (n:=n) (l:=l) d (by omega);obtain⟨j1,j2⟩:=Zwt (n:=n+d) (by omega) ps l h;exact⟨Rat.le_trans i1 j1,Rat.le_trans j2 i2⟩
def Zid (n:Nat) (ps:List Int) (l:List Rat):Int:=if 0<=loE n ps l then 1 else if hiE n ps l<=0 then -1 else 0
theorem Ztj{n:Nat}(hn:n<=1056){p:Int}(hp:p∈Zd1):LN.LogAt n p (lgN p n):=by
 obtain⟨q,rfl,hq⟩:=Zbx hp;exact Zv8 hq hn
theorem Zun{n:Nat}(hn:n<=1056){ps:List Int}{l:List Rat}(h1:∀ p∈ps,p∈Zd1):∀ x∈tlQ ps l,LN.LogAt n x.1 ((lf n) x.1):=fun x hx=>by
 have h:=(Vz (Ko l) ps l).subset (List.mem_map.2 ⟨x,hx,rfl⟩);exact Ztj hn (h1 _ h)
theorem Zgw{ps:List Int}{l:List Rat}(h2:ps.Nodup):((tlQ ps l).map Prod.fst).Nodup:=(Vz (Ko l) ps l).nodup h2
theorem Zlg(n:Nat)(ps:List Int)(l:List Rat):(0<=loE n ps l↔0<=LN.eLo (lf n) (tlQ ps l))/\(hiE n ps l<=0↔LN.eHi (lf n) (tlQ ps l)<=0):=by
 have hD:=LN.tden_pos' l;obtain⟨e1,e2⟩:=Zld hD n ps l fun q hq=>LN.tden_dvd hq
 have au:(0:Rat)<(Ko l:Rat):=Rat.natCast_pos.2 hD;have h2:=Za3 n;have hc:(0:Rat)<(Ko l:Rat)*2^n:=Rat.mul_pos au h2;rw[Rat.mul_assoc] at e1 e2;unfold tlQ;generalize (Ko l:Rat)*2^n=c at *;refine⟨⟨fun h=>?_,fun h=>?_⟩,⟨fun h=>?_,fun h=>?_⟩⟩
 ·have h3:=Rat.mul_nonneg h (Rat.le_of_lt hc);rw[<- e1,<- Rat.intCast_zero] at h3;exact Rat.intCast_le_intCast.1 h3
 ·refine Rat.not_lt.1 fun h3=>?_
  have h4:=Rat.mul_pos (show 0 < -loE n ps l by grind) hc;have h5:((0:Int):Rat)<=_:=Rat.intCast_le_intCast.2 h;rw[e1,Rat.intCast_zero] at h5
  grind
 ·have h3:=Rat.mul_nonneg (show 0 <= -hiE n ps l by grind) (Rat.le_of_lt hc);have h4:hiE n ps l*c<=0:=by grind
  rw[<- e2,<- Rat.intCast_zero] at h4;exact Rat.intCast_le_intCast.1 h4
 ·refine Rat.not_lt.1 fun h3=>?_
  have h4:=Rat.mul_pos h3 hc;have h5:_<=((0:Int):Rat):=Rat.intCast_le_intCast.2 h;rw[e2,Rat.intCast_zero] at h5
  grind
theorem Zre{n:Nat}(hn:n<=1056){ps:List Int}{l:List Rat}(h1:∀ p∈ps,p∈Zd1)(h2:ps.Nodup)(gm:tlQ ps l≠[])(h:0<=loE n ps l):LN.sz ps l=1:=by
 have h3:=(Zlg n ps l).1.1 h;rw[LN.eLo_eq] at h3;exact LN.sign_low n _ (tlQ ps l) (Zun hn h1) (fun x hx=>Zl5 hx) gm (Zgw h2) (by omega)
theorem Zze{n:Nat}(hn:n<=1056){ps:List Int}{l:List Rat}(h1:∀ p∈ps,p∈Zd1)(h2:ps.Nodup)(gm:tlQ ps l≠[])(h:hiE n ps l<=0):LN.sz ps l = -1:=by
 have h3:=(Zlg n ps l).2.1 h;rw[LN.eHi_eq] at h3;exact LN.sign_high n _ (tlQ ps l) (Zun hn h1) (fun x hx=>Zl5 hx) gm (Zgw h2) (by omega)
theorem Zw5{n d:Nat}{ps:List Int}{l:List Rat}(h1:∀ p∈ps,p∈Zd1)(hd:n+d<=1056)(h:Zid n ps l≠0):Zid (n+d) ps l≠0:=by
 obtain⟨u1,u2⟩:=Zlb (n:=n) (ps:=ps) (l:=l) (fun p hp=>Zbx (h1 p hp)) d hd;unfold Zid at h ⊢;split
 ·decide
 ·split
  ·decide
  ·rename_i c1 c2
   split at h
   ·rename_i c3
    exact absurd (Rat.le_trans c3 u1) c1
   ·split at h
    ·rename_i c4
     exact absurd (Rat.le_trans u2 c4) c2
    ·exact h
end Go.Proofs.YtbielfplgbammaaGreatDoor

namespace Go.Proofs.YtbielfplgbammaaGreatDoor.LN
def Qe4:List (List Int):=[[-366529374168471219660881757358854260481923030538463758512084751101165368965868765205518464276730954796387849320760092003290978986056594420337668804669660390847296384235094022086060948701662963664934088,-580935313469820489357723708887992875975689317799722319968227917127004220401059446167908003738785161849085057587212055801154189465721391265515547715657450481761809163011041834238441228669635065435171806,-851054851483255579986619935921254623946135405184991169839844036714179802753564227536018136581505010985024626073713747935726101681220476643360310109292342860397445298392796570176857912662379824214212428,-1028978042650550933180557961791804634001687170962595617951843945534299615961811396215365672195135717430497342047021033550456041299722351370459721079097633451186518552531381815947617167080378348777188427,-1267983306157749960491913991920202373914735078848290751537723188288310121539334060048543157182367081618594539795290234456246801447720245906387734928146856258237643822140566901866332816390400807879641334,-1356319854038408545823350647938967626976607133879995615741509594652744283164889573336582873328136688637698168278195208207533495601294393541238278375020123336023081647326330565528757662434961234144641163],[-1718401069850792460240258230821930567214047360477444484934168160760012536549082670317841794151605935601205277948056466224498914201930188615215741543655963695297701916056210109851007922408846622017843562,-2723601256912622198503167503332459736128246855944626649426607748060259403045308583053870784798624560976981875108908514926538800755743190605637005632377802276333319754542104865226360301007933135917855169,-3990003722371055809520901552035376433894268408214365745214896102329202389552955187024376099031880904240019660858445649326443356377196996730595942050104985656218249469868625414473711957139195741302739258,-4824161701514674978712058317335834309400755952858694762671616454297815660206694830177371412360521397384815585960113298220525055095282039434754004909626449183004703142693475869417555563356162338732285081,-5944690994541990266177117237309050550368317444862611835426988555586185975139002038425391466444839954944863971795983536494006501040385684161540190197774991607031374590079536027927069987737796836055527690,-6358839570572017673021429855441932654144869871150536294632504974800951077226243229323792743102336939886825614906779487053485218442474456432475274228831461944927853673435067313883192377527780696898853122],[2523054275763633756034117596825892211814980148994729313794263473670261462212204104655381420441413811102291135532002341973597593237103962243622476518678388482336475121962354397311002582075781208526021593,3998946414369534554158456072351422329968508384263181734534688376670806948524961517536443060219466684749729045098283420529383308189167277051416112571277064215454815005801009005907958806763715392444027670,5858350607821267887608226095426036601271642659323424343596626521506610662566618874316532993472510720648050760209759367205803530267170815420885060596236821595906164786000829539360421620296390717393288930,7083108839683520823190735676565485861166419213118995858267469929887991984345794266118589113371168493558414375877153442850437415237741587171371282477055018145989399262972525725951687891903992275484282339,8728333737114741277382759585969961574857860234185406047877598745479532283551635093967510453932218178748264460611292734029153943592996777844600946202606138641690999572165951471790700040770702500083747401,9336410253061458309400077518464479089480315893657746156725053413936599589892662611396941200344431417059104407757984973895188286553835687051219124092419118149191569419748171610942384190881317723705500861],[1648290219614100417935338380391359245499167092472603052851181057888891680409718999047683882798501106931900232457638242696169114297122147415982828022127943019750446415919608776968407214443049758943896568,2612478188393788314366288172447008732397654643362646396239248686791722033388758241920166975558146253746710293486030372165738144955445552308701562221172348092719223373053815140046817653809939663554802259,3827211369450040278189656245547424022973785665101318384514513270336551658803658233459689743981087506037705438655623898566371701170691650076742057214228549851912026966442003408837539734079986401364711731,4627335661013054035799227122073431035040091964127323044919864061684443676406963280356332329787681184927699497000482765122532743073776461832653135794328566131665321262960788706285665641749713247664483274,5702147302423633578812835607984017162296119582935116277611003407812212003468587398654336614715925469516932332607899071756663398094397466688854135259574919324582738688462558509849853122464532656452099247,6099398595683520647414615910023799230001578433837547879649011536816074359124278454913021831959621412198174909087366118567982698705474547013239627116425011695873380779785225975580687426804065798605029545],[-2081359363911009964232050833377229255150589631552976619622594890552243909232856777020653185145124345364611221533836759295962814276631121585431974770983709168817096764157605324806571044877031493185919446,-3298876542323789301545188838412069873122606472101882125392993792200873393289956339261164915647668777334051699542631404373831349967668082542960664481491008082901933495539346809129393318201353755780806478,-4832766782621863683786282360417470411567844028077479483690219658019191554675172566244827891408399461064200397984724078921001031843470650652499700223762653104157384687293120669236469732237850165630460539,-5843114454846257841501970590675282408284598925631530229223817892102074059922047843781580167138991132163659748299662602940766513499394001801104644241771165566836046835526041725661290253861502869956807133,-7200320393260560620362743964482738140129661136579283523697833573270546562672764136247395874477639683654562086331697381360266302964420530853136884262453181748296071170287219328926377553217524590274630310,-7701944857941180578354380449714675677093345005216541905874729650660631859896131092119032083366831011973981538842921251665414236579013882275351030112414548486055649663621767711909419820154940743662071584],[-3027041613133531992803828667403620014182872940975299778990376438873134232672969793644745090975477284630252379638749645424550759122546026644205584270923790233623239539961228411504855529682849070065884640,-4797747444939125471973282334060742388594829436083820187091964198553023672645508821667047381033552419333201950966634736335686480046834516621362644577977179841690341948883025966327290614968640744463019982,-7028572965927910060470345716924058757256892197548999776416305228901067563866468687612919973137735167951488821414200113187810668159367983719815860749969833895270983239839015112770576925967393932361132229,-8497980171903610913556553087070615453620725175261006975900336989781831474863821489668118733602857865424132030713306445006776527237856762131537873446004564481394851533715639340871236094669778169930865883,-10471843467404989946371407102633040832090113055138551993947426613871414557518549089739018805997777303342483304318745110349439135422090417452194435476870511549864075631383898003692857338665528684942265076,-11201385013705204064603040597674147807439825268295585818685322442379692939809003813858307194576318018694233470004123675640431084701175604069838247259970648119673435757713353826683249252538472722215285359]]
def Qe2:List (List Int):=[[-58511276111547751058168340505158583244481,-12917127164239769595412160054276741078749,8119370437989125804172669197469859570767,-32879729998891917400085655941464628942717,-75088223772348561039095337994745480464340,54911289762118827524876671098812005678557],[6588341751174671131037557833380308099751,19726274763795916871828877104191073712815,4292762141734063785937090246465369495956,417898744252221810430174663152082810426,-9455208260428995524944155879460438855487,-1689139612388653139919800730624489733811],[207434427815531667652808356861907749609,6308798339842725333695468720600261156270,10854568364980320818740970307916580266740,8950868240922710932565128104522310963886,12585653403184345436959143342541602019176,1661011032111891872176625980829274361741],[4121061610838069244392956914742633778165,-4652926719185522981882508694327945998400,-13785355387455489946853221741023099690914,16298363115007132632408508115631225727646,933150251415826560021310299270902609041,-1114581383711958247797221448389517335997],[-12921692917413360408764856356378142461600,2416717437086177329125143444123825030131,-5630958495640984204460423177058035115542,-8717679415302532043971337145211999675181,9895116286354708238555547111964592434534,-16051474868078554108559107000437081914455],[21813565485209550244542259630564024934278,-7646363369989309612689812812616083868684,4878754374016373159535427357903662319758,-1124993433517499239813487816370622082312,6485777852877863067301668975571185203977,693752746741528719277279537474047493357]]
def KA:Nat:=2^130
def SA:Nat:=2^354
theorem certA_ok:certOk (2^1024) certL Qe4 Qe2 1 KA SA=true:=by decide +kernel
def Qe3:List (List Int):=[[731737869497913089172107,1159777083511783362389155,1699042717280226710022336,2054247909590911086469455,2531397122295372862186228,2707751875558020790136162],[-53416577012735038177860,-84663271482068752652810,-124029450898583940116552,-149959290396170780351897,-184790995477229817694704,-197664823185067187335329],[-147108221161024430749825,-233161014088018187355256,-341574711702686220098849,-412984988751540528005126,-508910831645936250716686,-544365104449338693850734],[-179887008106185379691653,-285114162215226472718526,-417684698026982526142578,-505006677621115654864164,-622306803624601500566624,-665661029573696987082924],[-96527859527532333803500,-152993037626018129196808,-224130748976318080416980,-270987961560302893008770,-333931529328924837100852,-357195525302824686774925],[-1104469713946040728890633,-1750543079786696740204950,-2564499258763520406998217,-3100638487709971474732135,-3820837450252224361693129,-4087023596969859640066065]]
def Qe1:List (List Int):=[[110018,384662,189534,175343,-184094,16572],[6283,-67629,24058,-23185,-8773,8772],[27442,-15630,-46177,21733,10958,20590],[-41282,-23213,-62844,-52374,-18799,-7684],[11708,-3829,18963,-26640,44374,5877],[-29268,-43986,-2600,13548,19409,-20820]]
def KB:Nat:=2^12
def SB:Nat:=2^943
theorem certB_ok:certOk (2^1024) certL Qe3 Qe1 1 KB SB=true:=by decide +kernel
end Go.Proofs.YtbielfplgbammaaGreatDoor.LN

namespace Go.Proofs.YtbielfplgbammaaGreatDoor
open Go.RowKit
theorem Zqy{k a:Int}(hk : -100000<=k/\k<=100000)(ha:0<=a/\a<=469762049): -46976204900000<=k*a/\k*a<=46976204900000:=by
 have h:(k*a).natAbs<=100000*469762049:=by rw[Int.natAbs_mul];exact Nat.mul_le_mul (by omega) (by omega)
 omega
theorem Zqo:∀ (l:List (Int×Int)),(∀ x∈l,okT 100000 x)->(∀ x∈l,2<=x.1/\x.1<=97) ->
  (-((l.length:Int)*46976204900000)<=Zcm l/\Zcm l<=(l.length:Int)*46976204900000)/\(-((l.length:Int)*46976204900000)<=Vx l/\Vx l<=(l.length:Int)*46976204900000)
 | [],_,_=>⟨⟨Int.le_refl _,Int.le_refl _⟩,⟨Int.le_refl _,Int.le_refl _⟩⟩
 | x::l,h,hp=>by
  have ih:=Zqo l (fun y hy=>h y (List.mem_cons_of_mem _ hy)) (fun y hy=>hp y (List.mem_cons_of_mem _ hy));have hx:=(h x List.mem_cons_self).1;have hq:=hp x List.mem_cons_self;have ha:=Qax x.1 hq.1 hq.2;have t1:=Zqy hx (show 0<=lgA x.1/\lgA x.1<=469762049 by omega);have t2:=Zqy hx (show 0<=lgB x.1/\lgB x.1<=469762049 by unfold lgB;split<;>omega);have e1:Zcm (x::l)=min (x.2*lgA x.1) (x.2*lgB x.1)+Zcm l:=by simp[Zcm]
  have e2:Vx (x::l)=max (x.2*lgA x.1) (x.2*lgB x.1)+Vx l:=by simp[Vx]
  rw[e1,e2,List.length_cons];omega
theorem Zv2:∀ l:List (Int×Int),Zcm l<=Vx l
 | []=>Int.le_refl _
 | x::l=>by
  have ih:=Zv2 l;have e1:Zcm (x::l)=min (x.2*lgA x.1) (x.2*lgB x.1)+Zcm l:=by simp[Zcm]
  have e2:Vx (x::l)=max (x.2*lgA x.1) (x.2*lgB x.1)+Vx l:=by simp[Vx]
  rw[e1,e2];omega
structure Zug (tx ty:List (Int×Int)) (d g:Nat) (q:Int):Prop where
 okx:∀ x∈tx,okT 100000 x
 oky:∀ x∈ty,okT 100000 x
 r:(0<Zcm ty/\LN.quoL (Zcm tx) (Zcm ty) (Vx ty) g d=q/\LN.quoH (Vx tx) (Zcm ty) (Vx ty) g d=q) \/
   (Vx ty<0/\LN.quoL (-Vx tx) (-Vx ty) (-Zcm ty) g d=q/\LN.quoH (-Zcm tx) (-Vx ty) (-Zcm ty) g d=q)
 lo : -4000000000000000000<=q
 hi:q<=4000000000000000000
theorem Zmz(w:World)(b1 b2:OA_)(d1 d2 D:Nat)(tl:List (Int×Int))(T:Ym w tl b1 b2)(hl:tl.length<=6):
  ∃ (a h:Int) (b:Bool),(b=true->(∀ x∈tl,okT 100000 x)/\a=Zcm tl/\h=Vx tl)/\(-300000000000000<=a/\a<=300000000000000)/\(-300000000000000<=h/\h<=300000000000000) /\
   ∀ W,Bw_ w W->Qg W->Kc Tryz.prog 230 #[.agg (Kk b1 d1 b2 d2 tl.length D),.int .i64 100000] W (.tuple #[.int .i64 a,.int .i64 h,.bool b]):=by
 by_cases ho:∀ x∈tl,okT 100000 x
 ·have hs:=Zqo tl ho T.p;refine⟨Zcm tl,Vx tl,true,fun _=>⟨ho,rfl,rfl⟩,by omega,by omega,fun W hW LW=>?_⟩;have:=Zq9 W b1 b2 d1 d2 D tl 100000 (by decide) (by decide) T.len (T.below hW).r1 (T.below hW).r2 T.p T.z LW
  unfold Zoz at this;rw[if_pos ho] at this;exact this
 ·refine⟨0,0,false,fun h=>(by cases h),by decide,by decide,fun W hW LW=>?_⟩;have:=Zq9 W b1 b2 d1 d2 D tl 100000 (by decide) (by decide) T.len (T.below hW).r1 (T.below hW).r2 T.p T.z LW
  unfold Zoz at this;rw[if_neg ho] at this;exact this
theorem Zi0(d:Nat)(hd:Num d):∃ (a:Int) (b:Bool),(b=true->a=d)/\0<=a/\a<=9223372036854775807/\∀ W,Qg W->Kc Tryz.prog 179 #[.string (dec d)] W (.tuple #[.int .i64 a,.bool b]):=by
 by_cases h : -9223372036854775808<=(d:Int)/\(d:Int)<=9223372036854775807
 ·refine⟨d,true,fun _=>rfl,by omega,h.2,fun W LW=>?_⟩;have:=Ze2 W (d:Int) hd LW
  rw[if_pos h,Kg] at this;exact this
 ·refine⟨0,false,fun h=>(by cases h),by decide,by decide,fun W LW=>?_⟩;have:=Ze2 W (d:Int) hd LW
  rw[if_neg h,Kg] at this;exact this
theorem Zmp(w:World)(x1 x2 y1 y2:OA_)(e1 e2 g1 g2 d g:Nat)(tx ty:List (Int×Int))(X:Ym w tx x1 x2)(Y:Ym w ty y1 y2)(hlx:tx.length<=6)(hly:ty.length<=6)(hd:Num d)(hg:Num g)(G':0<d)(fK:0<g)(L:Qg w):
  Calls Tryz.prog 240 #[.agg (Kk x1 e1 x2 e2 tx.length d),.agg (Kk y1 g1 y2 g2 ty.length g)] w fun e w'=>∃ q b,e = .returned (.tuple #[.int .i64 q,.bool b])/\(b=true->Zug tx ty d g q)/\Bw_ w w':=by
 obtain⟨X1,X2,bx,hX,Av,ak,NX⟩:=Zmz w x1 x2 e1 e2 d tx X hlx;obtain⟨Y1,Y2,by_,hY,hY1,hY2,NY⟩:=Zmz w y1 y2 g1 g2 g ty Y hly;obtain⟨D,bd,hD,hD0,av,ND⟩:=Zi0 d hd;obtain⟨G,bg,hG,hG0,hG1,NG⟩:=Zi0 g hg;have gN:Hid (∀ W,Bw_ w W->Kc Tryz.prog 230 #[.agg (Kk x1 e1 x2 e2 tx.length d),.int .i64 100000] W (.tuple #[.int .i64 X1,.int .i64 X2,.bool bx])):=fun W hW=>NX W hW (L.below hW)
 have GD:Hid (∀ W,Bw_ w W->Kc Tryz.prog 230 #[.agg (Kk y1 g1 y2 g2 ty.length g),.int .i64 100000] W (.tuple #[.int .i64 Y1,.int .i64 Y2,.bool by_])):=fun W hW=>NY W hW (L.below hW)
 have fk:Hid (∀ W,Bw_ w W->Kc Tryz.prog 179 #[.string (dec d)] W (.tuple #[.int .i64 D,.bool bd])):=fun W hW=>ND W (L.below hW)
 have gI:Hid (∀ W,Bw_ w W->Kc Tryz.prog 179 #[.string (dec g)] W (.tuple #[.int .i64 G,.bool bg])):=fun W hW=>NG W (L.below hW)
 have R1:Hid (((w.alloc (.cells (Kk x1 e1 x2 e2 tx.length d) 146)).alloc (.cells (Kk y1 g1 y2 g2 ty.length g) 146)).heap[w.heap.size]?=some (.cells #[.slice x1 tx.length e1,.slice x2 tx.length e2,.string (dec d)] 146 (0,0))):=Kj (Qe w _ _ _ rfl) _;have R2:Hid (((w.alloc (.cells (Kk x1 e1 x2 e2 tx.length d) 146)).alloc (.cells (Kk y1 g1 y2 g2 ty.length g) 146)).heap[w.heap.size+1]?=some (.cells #[.slice y1 ty.length g1,.slice y2 ty.length g2,.string (dec g)] 146 (0,0))):=Qe _ _ _ _ (by show (w.heap.push _).size=_;exact Array.size_push ..);have B0:Hid (Bw_ w ((w.alloc (.cells (Kk x1 e1 x2 e2 tx.length d) 146)).alloc (.cells (Kk y1 g1 y2 g2 ty.length g) 146))):=by
  show Below _ _ _
  have b1:=(Below.refl w.heap.size w).alloc nr_ (.cells (Kk x1 e1 x2 e2 tx.length d) 146);exact b1.alloc b1.size _
 have HX:=hd_ hX;have HY:=hd_ hY;have HD:=hd_ hD;have HG:=hd_ hG;clear NX NY ND NG hX hY hD hG X Y L hlx hly hd hg;generalize tx.length=n at *;generalize ty.length=m at *;cases bx with
 | false =>
  go_enter Tryz.func240,Tryz.ntmps240;go_wp2_with fail;generalize (w.alloc (.cells (Kk x1 e1 x2 e2 n d) 146)).alloc (.cells (Kk y1 g1 y2 g2 m g) 146)=W0 at *;refine cm_ (gN.o _ B0.o) ?_;rintro e W1 ⟨rfl,hb⟩;have B1:=bt_ B0 hb;have R3:=hk_ R1 hb;have R4:=hk_ R2 hb;clear hb B0 R1 R2 gN;obtain⟨k0,k1,k2,-⟩:=Kd R3.o;obtain⟨m0,m1,m2,-⟩:=Kd R4.o;go_wp2_with fail;refine cm_ (GD.o _ B1.o) ?_;rintro e W2 ⟨rfl,hb⟩;have B2:=bt_ B1 hb;have R5:=hk_ R3 hb;have R6:=hk_ R4 hb;clear hb B1 R3 R4 GD k0 k1 k2 m0 m1 m2;obtain⟨k0,k1,k2,-⟩:=Kd R5.o;go_wp2_with fail;refine cm_ (fk.o _ B2.o) ?_;rintro e W3 ⟨rfl,hb⟩;have B3:=bt_ B2 hb;have R8:=hk_ R6 hb;clear hb B2 R5 R6 fk k0 k1 k2;obtain⟨m0,m1,m2,-⟩:=Kd R8.o;go_wp2_with fail;refine cm_ (gI.o _ B3.o) ?_;rintro e W4 ⟨rfl,hb⟩;have B4:=bt_ B3 hb;clear hb B3 R8 gI m0 m1 m2;go_wp2_with fail
  go_ret2
  exact⟨0,false,rfl,fun h=>(by cases h),B4.o⟩
 | true =>
  cases by_ with
  | false =>
   go_enter Tryz.func240,Tryz.ntmps240;go_wp2_with fail;generalize (w.alloc (.cells (Kk x1 e1 x2 e2 n d) 146)).alloc (.cells (Kk y1 g1 y2 g2 m g) 146)=W0 at *;refine cm_ (gN.o _ B0.o) ?_;rintro e W1 ⟨rfl,hb⟩;have B1:=bt_ B0 hb;have R3:=hk_ R1 hb;have R4:=hk_ R2 hb;clear hb B0 R1 R2 gN;obtain⟨k0,k1,k2,-⟩:=Kd R3.o;obtain⟨m0,m1,m2,-⟩:=Kd R4.o;go_wp2_with fail;refine cm_ (GD.o _ B1.o) ?_;rintro e W2 ⟨rfl,hb⟩;have B2:=bt_ B1 hb;have R5:=hk_ R3 hb;have R6:=hk_ R4 hb;clear hb B1 R3 R4 GD k0 k1 k2 m0 m1 m2;obtain⟨k0,k1,k2,-⟩:=Kd R5.o;go_wp2_with fail;refine cm_ (fk.o _ B2.o) ?_;rintro e W3 ⟨rfl,hb⟩;have B3:=bt_ B2 hb;have R8:=hk_ R6 hb;clear hb B2 R5 R6 fk k0 k1 k2;obtain⟨m0,m1,m2,-⟩:=Kd R8.o;go_wp2_with fail;refine cm_ (gI.o _ B3.o) ?_;rintro e W4 ⟨rfl,hb⟩;have B4:=bt_ B3 hb;clear hb B3 R8 gI m0 m1 m2;go_wp2_with fail
   go_ret2
   exact⟨0,false,rfl,fun h=>(by cases h),B4.o⟩
  | true =>
   cases bd with
   | false =>
    go_enter Tryz.func240,Tryz.ntmps240;go_wp2_with fail;generalize (w.alloc (.cells (Kk x1 e1 x2 e2 n d) 146)).alloc (.cells (Kk y1 g1 y2 g2 m g) 146)=W0 at *;refine cm_ (gN.o _ B0.o) ?_;rintro e W1 ⟨rfl,hb⟩;have B1:=bt_ B0 hb;have R3:=hk_ R1 hb;have R4:=hk_ R2 hb;clear hb B0 R1 R2 gN;obtain⟨k0,k1,k2,-⟩:=Kd R3.o;obtain⟨m0,m1,m2,-⟩:=Kd R4.o;go_wp2_with fail;refine cm_ (GD.o _ B1.o) ?_;rintro e W2 ⟨rfl,hb⟩;have B2:=bt_ B1 hb;have R5:=hk_ R3 hb;have R6:=hk_ R4 hb;clear hb B1 R3 R4 GD k0 k1 k2 m0 m1 m2;obtain⟨k0,k1,k2,-⟩:=Kd R5.o;go_wp2_with fail;refine cm_ (fk.o _ B2.o) ?_;rintro e W3 ⟨rfl,hb⟩;have B3:=bt_ B2 hb;have R8:=hk_ R6 hb;clear hb B2 R5 R6 fk k0 k1 k2;obtain⟨m0,m1,m2,-⟩:=Kd R8.o;go_wp2_with fail;refine cm_ (gI.o _ B3.o) ?_;rintro e W4 ⟨rfl,hb⟩;have B4:=bt_ B3 hb;clear hb B3 R8 gI m0 m1 m2;go_wp2_with fail
    go_ret2
    exact⟨0,false,rfl,fun h=>(by cases h),B4.o⟩
   | true =>
    cases bg with
    | false =>
     go_enter Tryz.func240,Tryz.ntmps240;go_wp2_with fail;generalize (w.alloc (.cells (Kk x1 e1 x2 e2 n d) 146)).alloc (.cells (Kk y1 g1 y2 g2 m g) 146)=W0 at *;refine cm_ (gN.o _ B0.o) ?_;rintro e W1 ⟨rfl,hb⟩;have B1:=bt_ B0 hb;have R3:=hk_ R1 hb;have R4:=hk_ R2 hb;clear hb B0 R1 R2 gN;obtain⟨k0,k1,k2,-⟩:=Kd R3.o;obtain⟨m0,m1,m2,-⟩:=Kd R4.o;go_wp2_with fail;refine cm_ (GD.o _ B1.o) ?_;rintro e W2 ⟨rfl,hb⟩;have B2:=bt_ B1 hb;have R5:=hk_ R3 hb;have R6:=hk_ R4 hb;clear hb B1 R3 R4 GD k0 k1 k2 m0 m1 m2;obtain⟨k0,k1,k2,-⟩:=Kd R5.o;go_wp2_with fail;refine cm_ (fk.o _ B2.o) ?_;rintro e W3 ⟨rfl,hb⟩;have B3:=bt_ B2 hb;have R8:=hk_ R6 hb;clear hb B2 R5 R6 fk k0 k1 k2;obtain⟨m0,m1,m2,-⟩:=Kd R8.o;go_wp2_with fail;refine cm_ (gI.o _ B3.o) ?_;rintro e W4 ⟨rfl,hb⟩;have B4:=bt_ B3 hb;clear hb B3 R8 gI m0 m1 m2;go_wp2_with fail
     go_ret2
     exact⟨0,false,rfl,fun h=>(by cases h),B4.o⟩
    | true =>
     have Iq:=HD.o rfl;have Ip:=HG.o rfl;have In:=HX.o rfl;have Im:=HY.o rfl
     by_cases nC:(10000:Int)<D
     ·clear Iq Ip In Im HX HY HD HG;go_enter Tryz.func240,Tryz.ntmps240;go_wp2_with fail;generalize (w.alloc (.cells (Kk x1 e1 x2 e2 n d) 146)).alloc (.cells (Kk y1 g1 y2 g2 m g) 146)=W0 at *;refine cm_ (gN.o _ B0.o) ?_;rintro e W1 ⟨rfl,hb⟩;have B1:=bt_ B0 hb;have R3:=hk_ R1 hb;have R4:=hk_ R2 hb;clear hb B0 R1 R2 gN;obtain⟨k0,k1,k2,-⟩:=Kd R3.o;obtain⟨m0,m1,m2,-⟩:=Kd R4.o;go_wp2_with fail;refine cm_ (GD.o _ B1.o) ?_;rintro e W2 ⟨rfl,hb⟩;have B2:=bt_ B1 hb;have R5:=hk_ R3 hb;have R6:=hk_ R4 hb;clear hb B1 R3 R4 GD k0 k1 k2 m0 m1 m2;obtain⟨k0,k1,k2,-⟩:=Kd R5.o;go_wp2_with fail;refine cm_ (fk.o _ B2.o) ?_;rintro e W3 ⟨rfl,hb⟩;have B3:=bt_ B2 hb;have R8:=hk_ R6 hb;clear hb B2 R5 R6 fk k0 k1 k2;obtain⟨m0,m1,m2,-⟩:=Kd R8.o;go_wp2_with fail;refine cm_ (gI.o _ B3.o) ?_;rintro e W4 ⟨rfl,hb⟩;have B4:=bt_ B3 hb;clear hb B3 R8 gI m0 m1 m2;go_wp2_with fail
      go_ret2
      exact⟨0,false,rfl,fun h=>(by cases h),B4.o⟩
     by_cases hG2:(10000:Int)<G
     ·clear Iq Ip In Im HX HY HD HG;go_enter Tryz.func240,Tryz.ntmps240;go_wp2_with fail;generalize (w.alloc (.cells (Kk x1 e1 x2 e2 n d) 146)).alloc (.cells (Kk y1 g1 y2 g2 m g) 146)=W0 at *;refine cm_ (gN.o _ B0.o) ?_;rintro e W1 ⟨rfl,hb⟩;have B1:=bt_ B0 hb;have R3:=hk_ R1 hb;have R4:=hk_ R2 hb;clear hb B0 R1 R2 gN;obtain⟨k0,k1,k2,-⟩:=Kd R3.o;obtain⟨m0,m1,m2,-⟩:=Kd R4.o;go_wp2_with fail;refine cm_ (GD.o _ B1.o) ?_;rintro e W2 ⟨rfl,hb⟩;have B2:=bt_ B1 hb;have R5:=hk_ R3 hb;have R6:=hk_ R4 hb;clear hb B1 R3 R4 GD k0 k1 k2 m0 m1 m2;obtain⟨k0,k1,k2,-⟩:=Kd R5.o;go_wp2_with fail;refine cm_ (fk.o _ B2.o) ?_;rintro e W3 ⟨rfl,hb⟩;have B3:=bt_ B2 hb;have R8:=hk_ R6 hb;clear hb B2 R5 R6 fk k0 k1 k2;obtain⟨m0,m1,m2,-⟩:=Kd R8.o;go_wp2_with fail;refine cm_ (gI.o _ B3.o) ?_;rintro e W4 ⟨rfl,hb⟩;have B4:=bt_ B3 hb;clear hb B3 R8 gI m0 m1 m2;go_wp2_with fail
      go_ret2
      exact⟨0,false,rfl,fun h=>(by cases h),B4.o⟩
     have eU:=hd_ In;have eI:=hd_ Im;have eX:=hd_ Iq;have eV:=hd_ Ip;have EH:0<D:=by omega
     have oN:0<G:=by omega
     clear In Im Iq Ip HX HY HD HG G' fK
     by_cases hy:Y2<=0
     ·have NK:IntKind.i64.wrap (-X1) = -X1:=iw_ _ (by omega);have NJ:IntKind.i64.wrap (-X2) = -X2:=iw_ _ (by omega);have NI:IntKind.i64.wrap (-Y1) = -Y1:=iw_ _ (by omega);have NH:IntKind.i64.wrap (-Y2) = -Y2:=iw_ _ (by omega)
      by_cases dB : -Y2<=0
      ·clear eU eI eX eV;go_enter Tryz.func240,Tryz.ntmps240;go_wp2_with fail;generalize (w.alloc (.cells (Kk x1 e1 x2 e2 n d) 146)).alloc (.cells (Kk y1 g1 y2 g2 m g) 146)=W0 at *;refine cm_ (gN.o _ B0.o) ?_;rintro e W1 ⟨rfl,hb⟩;have B1:=bt_ B0 hb;have R3:=hk_ R1 hb;have R4:=hk_ R2 hb;clear hb B0 R1 R2 gN;obtain⟨k0,k1,k2,-⟩:=Kd R3.o;obtain⟨m0,m1,m2,-⟩:=Kd R4.o;go_wp2_with fail;refine cm_ (GD.o _ B1.o) ?_;rintro e W2 ⟨rfl,hb⟩;have B2:=bt_ B1 hb;have R5:=hk_ R3 hb;have R6:=hk_ R4 hb;clear hb B1 R3 R4 GD k0 k1 k2 m0 m1 m2;obtain⟨k0,k1,k2,-⟩:=Kd R5.o;go_wp2_with fail;refine cm_ (fk.o _ B2.o) ?_;rintro e W3 ⟨rfl,hb⟩;have B3:=bt_ B2 hb;have R8:=hk_ R6 hb;clear hb B2 R5 R6 fk k0 k1 k2;obtain⟨m0,m1,m2,-⟩:=Kd R8.o;go_wp2_with fail;refine cm_ (gI.o _ B3.o) ?_;rintro e W4 ⟨rfl,hb⟩;have B4:=bt_ B3 hb;clear hb B3 R8 gI m0 m1 m2;go_wp2_with fail
       go_ret2
       exact⟨0,false,rfl,fun h=>(by cases h),B4.o⟩
      ·have fO : -Y2 <= -Y1:=by
        obtain⟨u1,u2,u3⟩:=eI.o;rw[u2,u3];have:=Zv2 ty
        omega
       by_cases E':(-X2)<0
       ·by_cases fh:(-X1)<0
        ·skip
         have r1:((-X2)*G).natAbs<=300000000000000*10000:=by rw[Int.natAbs_mul];exact Nat.mul_le_mul (by omega) (by omega)
         have r2:((-X1)*G).natAbs<=300000000000000*10000:=by rw[Int.natAbs_mul];exact Nat.mul_le_mul (by omega) (by omega)
         have r3:((-Y2)*D).natAbs<=300000000000000*10000:=by rw[Int.natAbs_mul];exact Nat.mul_le_mul (by omega) (by omega)
         have r4:((-Y1)*D).natAbs<=300000000000000*10000:=by rw[Int.natAbs_mul];exact Nat.mul_le_mul (by omega) (by omega)
         have p3:0<(-Y2)*D:=Int.mul_pos (by omega) EH;have p4:0<(-Y1)*D:=Int.mul_pos (by omega) EH;have w1:IntKind.i64.wrap ((-X2)*G)=(-X2)*G:=iw_ _ (by omega);have w2:IntKind.i64.wrap ((-X1)*G)=(-X1)*G:=iw_ _ (by omega);have w3:IntKind.i64.wrap ((-Y2)*D)=(-Y2)*D:=iw_ _ (by omega);have w4:IntKind.i64.wrap ((-Y1)*D)=(-Y1)*D:=iw_ _ (by omega);have D1:Hid (∀ W,Kc Tryz.prog 287 #[.int .i64 ((-X2)*G),.int .i64 ((-Y2)*D)] W (.int .i64 ((-X2)*G/((-Y2)*D)))):=fun W=>Qd W _ _ (by omega) p3 (by omega)
         have D2:Hid (∀ W,Kc Tryz.prog 287 #[.int .i64 ((-X1)*G),.int .i64 ((-Y1)*D)] W (.int .i64 ((-X1)*G/((-Y1)*D)))):=fun W=>Qd W _ _ (by omega) p4 (by omega)
         have q5:(((-X2)*G/((-Y2)*D)).natAbs:Int)<=4000000000000000000:=by
          have:=Int.natAbs_ediv_le_natAbs ((-X2)*G) ((-Y2)*D)
          omega
         have Hq:Hid ((-X2)*G/((-Y2)*D)=(-X1)*G/((-Y1)*D)->Zug tx ty d g ((-X2)*G/((-Y2)*D))):=fun h=>by
          obtain⟨o1,o2,o3⟩:=eU.o;obtain⟨u1,u2,u3⟩:=eI.o;refine⟨o1,u1,?_,by omega,by omega⟩;rw[<- o2,<- o3,<- u2,<- u3,<- eX.o,<- eV.o];refine .inr ⟨by omega,?_,?_⟩
          ·unfold LN.quoL;rw[if_pos (by omega)]
          ·unfold LN.quoH;rw[if_pos (by omega)];exact h.symm
         clear r1 r2 r3 r4 p3 p4 q5 eU eI eX eV;obtain⟨q1,Gd⟩:∃ q,(-X2)*G/((-Y2)*D)=q:=⟨_,rfl⟩;obtain⟨q2,gQ⟩:∃ q,(-X1)*G/((-Y1)*D)=q:=⟨_,rfl⟩;rw[Gd] at D1 Hq;rw[gQ] at D2 Hq;clear Gd gQ;go_enter Tryz.func240,Tryz.ntmps240;go_wp2_with fail;generalize (w.alloc (.cells (Kk x1 e1 x2 e2 n d) 146)).alloc (.cells (Kk y1 g1 y2 g2 m g) 146)=W0 at *;refine cm_ (gN.o _ B0.o) ?_;rintro e W1 ⟨rfl,hb⟩;have B1:=bt_ B0 hb;have R3:=hk_ R1 hb;have R4:=hk_ R2 hb;clear hb B0 R1 R2 gN;obtain⟨k0,k1,k2,-⟩:=Kd R3.o;obtain⟨m0,m1,m2,-⟩:=Kd R4.o;go_wp2_with fail;refine cm_ (GD.o _ B1.o) ?_;rintro e W2 ⟨rfl,hb⟩;have B2:=bt_ B1 hb;have R5:=hk_ R3 hb;have R6:=hk_ R4 hb;clear hb B1 R3 R4 GD k0 k1 k2 m0 m1 m2;obtain⟨k0,k1,k2,-⟩:=Kd R5.o;go_wp2_with fail;refine cm_ (fk.o _ B2.o) ?_;rintro e W3 ⟨rfl,hb⟩;have B3:=bt_ B2 hb;have R8:=hk_ R6 hb;clear hb B2 R5 R6 fk k0 k1 k2;obtain⟨m0,m1,m2,-⟩:=Kd R8.o;go_wp2_with fail;refine cm_ (gI.o _ B3.o) ?_;rintro e W4 ⟨rfl,hb⟩;have B4:=bt_ B3 hb;clear hb B3 R8 gI m0 m1 m2;go_wp2_with fail;refine cm_ (D1.o _) ?_;rintro e W5 ⟨rfl,hb⟩;have B5:=bt_ B4 hb;clear hb B4;go_wp2_with fail;refine cm_ (D2.o _) ?_;rintro e W6 ⟨rfl,hb⟩;have B6:=bt_ B5 hb;clear hb B5;go_wp2_with fail
         go_ret2
         exact⟨q1,q1==q2,rfl,fun h=>Hq.o (by simpa using h),B6.o⟩
        ·skip
         have r1:((-X2)*G).natAbs<=300000000000000*10000:=by rw[Int.natAbs_mul];exact Nat.mul_le_mul (by omega) (by omega)
         have r2:((-X1)*G).natAbs<=300000000000000*10000:=by rw[Int.natAbs_mul];exact Nat.mul_le_mul (by omega) (by omega)
         have r3:((-Y2)*D).natAbs<=300000000000000*10000:=by rw[Int.natAbs_mul];exact Nat.mul_le_mul (by omega) (by omega)
         have r4:((-Y2)*D).natAbs<=300000000000000*10000:=by rw[Int.natAbs_mul];exact Nat.mul_le_mul (by omega) (by omega)
         have p3:0<(-Y2)*D:=Int.mul_pos (by omega) EH;have p4:0<(-Y2)*D:=Int.mul_pos (by omega) EH;have w1:IntKind.i64.wrap ((-X2)*G)=(-X2)*G:=iw_ _ (by omega);have w2:IntKind.i64.wrap ((-X1)*G)=(-X1)*G:=iw_ _ (by omega);have w3:IntKind.i64.wrap ((-Y2)*D)=(-Y2)*D:=iw_ _ (by omega);have w4:IntKind.i64.wrap ((-Y2)*D)=(-Y2)*D:=iw_ _ (by omega);have D1:Hid (∀ W,Kc Tryz.prog 287 #[.int .i64 ((-X2)*G),.int .i64 ((-Y2)*D)] W (.int .i64 ((-X2)*G/((-Y2)*D)))):=fun W=>Qd W _ _ (by omega) p3 (by omega)
         have D2:Hid (∀ W,Kc Tryz.prog 287 #[.int .i64 ((-X1)*G),.int .i64 ((-Y2)*D)] W (.int .i64 ((-X1)*G/((-Y2)*D)))):=fun W=>Qd W _ _ (by omega) p4 (by omega)
         have q5:(((-X2)*G/((-Y2)*D)).natAbs:Int)<=4000000000000000000:=by
          have:=Int.natAbs_ediv_le_natAbs ((-X2)*G) ((-Y2)*D)
          omega
         have Hq:Hid ((-X2)*G/((-Y2)*D)=(-X1)*G/((-Y2)*D)->Zug tx ty d g ((-X2)*G/((-Y2)*D))):=fun h=>by
          obtain⟨o1,o2,o3⟩:=eU.o;obtain⟨u1,u2,u3⟩:=eI.o;refine⟨o1,u1,?_,by omega,by omega⟩;rw[<- o2,<- o3,<- u2,<- u3,<- eX.o,<- eV.o];refine .inr ⟨by omega,?_,?_⟩
          ·unfold LN.quoL;rw[if_pos (by omega)]
          ·unfold LN.quoH;rw[if_neg (by omega)];exact h.symm
         clear r1 r2 r3 r4 p3 p4 q5 eU eI eX eV;obtain⟨q1,Gd⟩:∃ q,(-X2)*G/((-Y2)*D)=q:=⟨_,rfl⟩;obtain⟨q2,gQ⟩:∃ q,(-X1)*G/((-Y2)*D)=q:=⟨_,rfl⟩;rw[Gd] at D1 Hq;rw[gQ] at D2 Hq;clear Gd gQ;go_enter Tryz.func240,Tryz.ntmps240;go_wp2_with fail;generalize (w.alloc (.cells (Kk x1 e1 x2 e2 n d) 146)).alloc (.cells (Kk y1 g1 y2 g2 m g) 146)=W0 at *;refine cm_ (gN.o _ B0.o) ?_;rintro e W1 ⟨rfl,hb⟩;have B1:=bt_ B0 hb;have R3:=hk_ R1 hb;have R4:=hk_ R2 hb;clear hb B0 R1 R2 gN;obtain⟨k0,k1,k2,-⟩:=Kd R3.o;obtain⟨m0,m1,m2,-⟩:=Kd R4.o;go_wp2_with fail;refine cm_ (GD.o _ B1.o) ?_;rintro e W2 ⟨rfl,hb⟩;have B2:=bt_ B1 hb;have R5:=hk_ R3 hb;have R6:=hk_ R4 hb;clear hb B1 R3 R4 GD k0 k1 k2 m0 m1 m2;obtain⟨k0,k1,k2,-⟩:=Kd R5.o;go_wp2_with fail;refine cm_ (fk.o _ B2.o) ?_;rintro e W3 ⟨rfl,hb⟩;have B3:=bt_ B2 hb;have R8:=hk_ R6 hb;clear hb B2 R5 R6 fk k0 k1 k2;obtain⟨m0,m1,m2,-⟩:=Kd R8.o;go_wp2_with fail;refine cm_ (gI.o _ B3.o) ?_;rintro e W4 ⟨rfl,hb⟩;have B4:=bt_ B3 hb;clear hb B3 R8 gI m0 m1 m2;go_wp2_with fail;refine cm_ (D1.o _) ?_;rintro e W5 ⟨rfl,hb⟩;have B5:=bt_ B4 hb;clear hb B4;go_wp2_with fail;refine cm_ (D2.o _) ?_;rintro e W6 ⟨rfl,hb⟩;have B6:=bt_ B5 hb;clear hb B5;go_wp2_with fail
         go_ret2
         exact⟨q1,q1==q2,rfl,fun h=>Hq.o (by simpa using h),B6.o⟩
       ·by_cases fh:(-X1)<0
        ·skip
         have r1:((-X2)*G).natAbs<=300000000000000*10000:=by rw[Int.natAbs_mul];exact Nat.mul_le_mul (by omega) (by omega)
         have r2:((-X1)*G).natAbs<=300000000000000*10000:=by rw[Int.natAbs_mul];exact Nat.mul_le_mul (by omega) (by omega)
         have r3:((-Y1)*D).natAbs<=300000000000000*10000:=by rw[Int.natAbs_mul];exact Nat.mul_le_mul (by omega) (by omega)
         have r4:((-Y1)*D).natAbs<=300000000000000*10000:=by rw[Int.natAbs_mul];exact Nat.mul_le_mul (by omega) (by omega)
         have p3:0<(-Y1)*D:=Int.mul_pos (by omega) EH;have p4:0<(-Y1)*D:=Int.mul_pos (by omega) EH;have w1:IntKind.i64.wrap ((-X2)*G)=(-X2)*G:=iw_ _ (by omega);have w2:IntKind.i64.wrap ((-X1)*G)=(-X1)*G:=iw_ _ (by omega);have w3:IntKind.i64.wrap ((-Y1)*D)=(-Y1)*D:=iw_ _ (by omega);have w4:IntKind.i64.wrap ((-Y1)*D)=(-Y1)*D:=iw_ _ (by omega);have D1:Hid (∀ W,Kc Tryz.prog 287 #[.int .i64 ((-X2)*G),.int .i64 ((-Y1)*D)] W (.int .i64 ((-X2)*G/((-Y1)*D)))):=fun W=>Qd W _ _ (by omega) p3 (by omega)
         have D2:Hid (∀ W,Kc Tryz.prog 287 #[.int .i64 ((-X1)*G),.int .i64 ((-Y1)*D)] W (.int .i64 ((-X1)*G/((-Y1)*D)))):=fun W=>Qd W _ _ (by omega) p4 (by omega)
         have q5:(((-X2)*G/((-Y1)*D)).natAbs:Int)<=4000000000000000000:=by
          have:=Int.natAbs_ediv_le_natAbs ((-X2)*G) ((-Y1)*D)
          omega
         have Hq:Hid ((-X2)*G/((-Y1)*D)=(-X1)*G/((-Y1)*D)->Zug tx ty d g ((-X2)*G/((-Y1)*D))):=fun h=>by
          obtain⟨o1,o2,o3⟩:=eU.o;obtain⟨u1,u2,u3⟩:=eI.o;refine⟨o1,u1,?_,by omega,by omega⟩;rw[<- o2,<- o3,<- u2,<- u3,<- eX.o,<- eV.o];refine .inr ⟨by omega,?_,?_⟩
          ·unfold LN.quoL;rw[if_neg (by omega)]
          ·unfold LN.quoH;rw[if_pos (by omega)];exact h.symm
         clear r1 r2 r3 r4 p3 p4 q5 eU eI eX eV;obtain⟨q1,Gd⟩:∃ q,(-X2)*G/((-Y1)*D)=q:=⟨_,rfl⟩;obtain⟨q2,gQ⟩:∃ q,(-X1)*G/((-Y1)*D)=q:=⟨_,rfl⟩;rw[Gd] at D1 Hq;rw[gQ] at D2 Hq;clear Gd gQ;go_enter Tryz.func240,Tryz.ntmps240;go_wp2_with fail;generalize (w.alloc (.cells (Kk x1 e1 x2 e2 n d) 146)).alloc (.cells (Kk y1 g1 y2 g2 m g) 146)=W0 at *;refine cm_ (gN.o _ B0.o) ?_;rintro e W1 ⟨rfl,hb⟩;have B1:=bt_ B0 hb;have R3:=hk_ R1 hb;have R4:=hk_ R2 hb;clear hb B0 R1 R2 gN;obtain⟨k0,k1,k2,-⟩:=Kd R3.o;obtain⟨m0,m1,m2,-⟩:=Kd R4.o;go_wp2_with fail;refine cm_ (GD.o _ B1.o) ?_;rintro e W2 ⟨rfl,hb⟩;have B2:=bt_ B1 hb;have R5:=hk_ R3 hb;have R6:=hk_ R4 hb;clear hb B1 R3 R4 GD k0 k1 k2 m0 m1 m2;obtain⟨k0,k1,k2,-⟩:=Kd R5.o;go_wp2_with fail;refine cm_ (fk.o _ B2.o) ?_;rintro e W3 ⟨rfl,hb⟩;have B3:=bt_ B2 hb;have R8:=hk_ R6 hb;clear hb B2 R5 R6 fk k0 k1 k2;obtain⟨m0,m1,m2,-⟩:=Kd R8.o;go_wp2_with fail;refine cm_ (gI.o _ B3.o) ?_;rintro e W4 ⟨rfl,hb⟩;have B4:=bt_ B3 hb;clear hb B3 R8 gI m0 m1 m2;go_wp2_with fail;refine cm_ (D1.o _) ?_;rintro e W5 ⟨rfl,hb⟩;have B5:=bt_ B4 hb;clear hb B4;go_wp2_with fail;refine cm_ (D2.o _) ?_;rintro e W6 ⟨rfl,hb⟩;have B6:=bt_ B5 hb;clear hb B5;go_wp2_with fail
         go_ret2
         exact⟨q1,q1==q2,rfl,fun h=>Hq.o (by simpa using h),B6.o⟩
        ·skip
         have r1:((-X2)*G).natAbs<=300000000000000*10000:=by rw[Int.natAbs_mul];exact Nat.mul_le_mul (by omega) (by omega)
         have r2:((-X1)*G).natAbs<=300000000000000*10000:=by rw[Int.natAbs_mul];exact Nat.mul_le_mul (by omega) (by omega)
         have r3:((-Y1)*D).natAbs<=300000000000000*10000:=by rw[Int.natAbs_mul];exact Nat.mul_le_mul (by omega) (by omega)
         have r4:((-Y2)*D).natAbs<=300000000000000*10000:=by rw[Int.natAbs_mul];exact Nat.mul_le_mul (by omega) (by omega)
         have p3:0<(-Y1)*D:=Int.mul_pos (by omega) EH;have p4:0<(-Y2)*D:=Int.mul_pos (by omega) EH;have w1:IntKind.i64.wrap ((-X2)*G)=(-X2)*G:=iw_ _ (by omega);have w2:IntKind.i64.wrap ((-X1)*G)=(-X1)*G:=iw_ _ (by omega);have w3:IntKind.i64.wrap ((-Y1)*D)=(-Y1)*D:=iw_ _ (by omega);have w4:IntKind.i64.wrap ((-Y2)*D)=(-Y2)*D:=iw_ _ (by omega);have D1:Hid (∀ W,Kc Tryz.prog 287 #[.int .i64 ((-X2)*G),.int .i64 ((-Y1)*D)] W (.int .i64 ((-X2)*G/((-Y1)*D)))):=fun W=>Qd W _ _ (by omega) p3 (by omega)
         have D2:Hid (∀ W,Kc Tryz.prog 287 #[.int .i64 ((-X1)*G),.int .i64 ((-Y2)*D)] W (.int .i64 ((-X1)*G/((-Y2)*D)))):=fun W=>Qd W _ _ (by omega) p4 (by omega)
         have q5:(((-X2)*G/((-Y1)*D)).natAbs:Int)<=4000000000000000000:=by
          have:=Int.natAbs_ediv_le_natAbs ((-X2)*G) ((-Y1)*D)
          omega
         have Hq:Hid ((-X2)*G/((-Y1)*D)=(-X1)*G/((-Y2)*D)->Zug tx ty d g ((-X2)*G/((-Y1)*D))):=fun h=>by
          obtain⟨o1,o2,o3⟩:=eU.o;obtain⟨u1,u2,u3⟩:=eI.o;refine⟨o1,u1,?_,by omega,by omega⟩;rw[<- o2,<- o3,<- u2,<- u3,<- eX.o,<- eV.o];refine .inr ⟨by omega,?_,?_⟩
          ·unfold LN.quoL;rw[if_neg (by omega)]
          ·unfold LN.quoH;rw[if_neg (by omega)];exact h.symm
         clear r1 r2 r3 r4 p3 p4 q5 eU eI eX eV;obtain⟨q1,Gd⟩:∃ q,(-X2)*G/((-Y1)*D)=q:=⟨_,rfl⟩;obtain⟨q2,gQ⟩:∃ q,(-X1)*G/((-Y2)*D)=q:=⟨_,rfl⟩;rw[Gd] at D1 Hq;rw[gQ] at D2 Hq;clear Gd gQ;go_enter Tryz.func240,Tryz.ntmps240;go_wp2_with fail;generalize (w.alloc (.cells (Kk x1 e1 x2 e2 n d) 146)).alloc (.cells (Kk y1 g1 y2 g2 m g) 146)=W0 at *;refine cm_ (gN.o _ B0.o) ?_;rintro e W1 ⟨rfl,hb⟩;have B1:=bt_ B0 hb;have R3:=hk_ R1 hb;have R4:=hk_ R2 hb;clear hb B0 R1 R2 gN;obtain⟨k0,k1,k2,-⟩:=Kd R3.o;obtain⟨m0,m1,m2,-⟩:=Kd R4.o;go_wp2_with fail;refine cm_ (GD.o _ B1.o) ?_;rintro e W2 ⟨rfl,hb⟩;have B2:=bt_ B1 hb;have R5:=hk_ R3 hb;have R6:=hk_ R4 hb;clear hb B1 R3 R4 GD k0 k1 k2 m0 m1 m2;obtain⟨k0,k1,k2,-⟩:=Kd R5.o;go_wp2_with fail;refine cm_ (fk.o _ B2.o) ?_;rintro e W3 ⟨rfl,hb⟩;have B3:=bt_ B2 hb;have R8:=hk_ R6 hb;clear hb B2 R5 R6 fk k0 k1 k2;obtain⟨m0,m1,m2,-⟩:=Kd R8.o;go_wp2_with fail;refine cm_ (gI.o _ B3.o) ?_;rintro e W4 ⟨rfl,hb⟩;have B4:=bt_ B3 hb;clear hb B3 R8 gI m0 m1 m2;go_wp2_with fail;refine cm_ (D1.o _) ?_;rintro e W5 ⟨rfl,hb⟩;have B5:=bt_ B4 hb;clear hb B4;go_wp2_with fail;refine cm_ (D2.o _) ?_;rintro e W6 ⟨rfl,hb⟩;have B6:=bt_ B5 hb;clear hb B5;go_wp2_with fail
         go_ret2
         exact⟨q1,q1==q2,rfl,fun h=>Hq.o (by simpa using h),B6.o⟩
     ·by_cases dB:Y1<=0
      ·clear eU eI eX eV;go_enter Tryz.func240,Tryz.ntmps240;go_wp2_with fail;generalize (w.alloc (.cells (Kk x1 e1 x2 e2 n d) 146)).alloc (.cells (Kk y1 g1 y2 g2 m g) 146)=W0 at *;refine cm_ (gN.o _ B0.o) ?_;rintro e W1 ⟨rfl,hb⟩;have B1:=bt_ B0 hb;have R3:=hk_ R1 hb;have R4:=hk_ R2 hb;clear hb B0 R1 R2 gN;obtain⟨k0,k1,k2,-⟩:=Kd R3.o;obtain⟨m0,m1,m2,-⟩:=Kd R4.o;go_wp2_with fail;refine cm_ (GD.o _ B1.o) ?_;rintro e W2 ⟨rfl,hb⟩;have B2:=bt_ B1 hb;have R5:=hk_ R3 hb;have R6:=hk_ R4 hb;clear hb B1 R3 R4 GD k0 k1 k2 m0 m1 m2;obtain⟨k0,k1,k2,-⟩:=Kd R5.o;go_wp2_with fail;refine cm_ (fk.o _ B2.o) ?_;rintro e W3 ⟨rfl,hb⟩;have B3:=bt_ B2 hb;have R8:=hk_ R6 hb;clear hb B2 R5 R6 fk k0 k1 k2;obtain⟨m0,m1,m2,-⟩:=Kd R8.o;go_wp2_with fail;refine cm_ (gI.o _ B3.o) ?_;rintro e W4 ⟨rfl,hb⟩;have B4:=bt_ B3 hb;clear hb B3 R8 gI m0 m1 m2;go_wp2_with fail
       go_ret2
       exact⟨0,false,rfl,fun h=>(by cases h),B4.o⟩
      ·skip
       by_cases E':X1<0
       ·by_cases fh:X2<0
        ·skip
         have r1:(X1*G).natAbs<=300000000000000*10000:=by rw[Int.natAbs_mul];exact Nat.mul_le_mul (by omega) (by omega)
         have r2:(X2*G).natAbs<=300000000000000*10000:=by rw[Int.natAbs_mul];exact Nat.mul_le_mul (by omega) (by omega)
         have r3:(Y1*D).natAbs<=300000000000000*10000:=by rw[Int.natAbs_mul];exact Nat.mul_le_mul (by omega) (by omega)
         have r4:(Y2*D).natAbs<=300000000000000*10000:=by rw[Int.natAbs_mul];exact Nat.mul_le_mul (by omega) (by omega)
         have p3:0<Y1*D:=Int.mul_pos (by omega) EH;have p4:0<Y2*D:=Int.mul_pos (by omega) EH;have w1:IntKind.i64.wrap (X1*G)=X1*G:=iw_ _ (by omega);have w2:IntKind.i64.wrap (X2*G)=X2*G:=iw_ _ (by omega);have w3:IntKind.i64.wrap (Y1*D)=Y1*D:=iw_ _ (by omega);have w4:IntKind.i64.wrap (Y2*D)=Y2*D:=iw_ _ (by omega);have D1:Hid (∀ W,Kc Tryz.prog 287 #[.int .i64 (X1*G),.int .i64 (Y1*D)] W (.int .i64 (X1*G/(Y1*D)))):=fun W=>Qd W _ _ (by omega) p3 (by omega)
         have D2:Hid (∀ W,Kc Tryz.prog 287 #[.int .i64 (X2*G),.int .i64 (Y2*D)] W (.int .i64 (X2*G/(Y2*D)))):=fun W=>Qd W _ _ (by omega) p4 (by omega)
         have q5:((X1*G/(Y1*D)).natAbs:Int)<=4000000000000000000:=by
          have:=Int.natAbs_ediv_le_natAbs (X1*G) (Y1*D)
          omega
         have Hq:Hid (X1*G/(Y1*D)=X2*G/(Y2*D)->Zug tx ty d g (X1*G/(Y1*D))):=fun h=>by
          obtain⟨o1,o2,o3⟩:=eU.o;obtain⟨u1,u2,u3⟩:=eI.o;refine⟨o1,u1,?_,by omega,by omega⟩;rw[<- o2,<- o3,<- u2,<- u3,<- eX.o,<- eV.o];refine .inl ⟨by omega,?_,?_⟩
          ·unfold LN.quoL;rw[if_pos (by omega)]
          ·unfold LN.quoH;rw[if_pos (by omega)];exact h.symm
         clear r1 r2 r3 r4 p3 p4 q5 eU eI eX eV;obtain⟨q1,Gd⟩:∃ q,X1*G/(Y1*D)=q:=⟨_,rfl⟩;obtain⟨q2,gQ⟩:∃ q,X2*G/(Y2*D)=q:=⟨_,rfl⟩;rw[Gd] at D1 Hq;rw[gQ] at D2 Hq;clear Gd gQ;go_enter Tryz.func240,Tryz.ntmps240;go_wp2_with fail;generalize (w.alloc (.cells (Kk x1 e1 x2 e2 n d) 146)).alloc (.cells (Kk y1 g1 y2 g2 m g) 146)=W0 at *;refine cm_ (gN.o _ B0.o) ?_;rintro e W1 ⟨rfl,hb⟩;have B1:=bt_ B0 hb;have R3:=hk_ R1 hb;have R4:=hk_ R2 hb;clear hb B0 R1 R2 gN;obtain⟨k0,k1,k2,-⟩:=Kd R3.o;obtain⟨m0,m1,m2,-⟩:=Kd R4.o;go_wp2_with fail;refine cm_ (GD.o _ B1.o) ?_;rintro e W2 ⟨rfl,hb⟩;have B2:=bt_ B1 hb;have R5:=hk_ R3 hb;have R6:=hk_ R4 hb;clear hb B1 R3 R4 GD k0 k1 k2 m0 m1 m2;obtain⟨k0,k1,k2,-⟩:=Kd R5.o;go_wp2_with fail;refine cm_ (fk.o _ B2.o) ?_;rintro e W3 ⟨rfl,hb⟩;have B3:=bt_ B2 hb;have R8:=hk_ R6 hb;clear hb B2 R5 R6 fk k0 k1 k2;obtain⟨m0,m1,m2,-⟩:=Kd R8.o;go_wp2_with fail;refine cm_ (gI.o _ B3.o) ?_;rintro e W4 ⟨rfl,hb⟩;have B4:=bt_ B3 hb;clear hb B3 R8 gI m0 m1 m2;go_wp2_with fail;refine cm_ (D1.o _) ?_;rintro e W5 ⟨rfl,hb⟩;have B5:=bt_ B4 hb;clear hb B4;go_wp2_with fail;refine cm_ (D2.o _) ?_;rintro e W6 ⟨rfl,hb⟩;have B6:=bt_ B5 hb;clear hb B5;go_wp2_with fail
         go_ret2
         exact⟨q1,q1==q2,rfl,fun h=>Hq.o (by simpa using h),B6.o⟩
        ·skip
         have r1:(X1*G).natAbs<=300000000000000*10000:=by rw[Int.natAbs_mul];exact Nat.mul_le_mul (by omega) (by omega)
         have r2:(X2*G).natAbs<=300000000000000*10000:=by rw[Int.natAbs_mul];exact Nat.mul_le_mul (by omega) (by omega)
         have r3:(Y1*D).natAbs<=300000000000000*10000:=by rw[Int.natAbs_mul];exact Nat.mul_le_mul (by omega) (by omega)
         have r4:(Y1*D).natAbs<=300000000000000*10000:=by rw[Int.natAbs_mul];exact Nat.mul_le_mul (by omega) (by omega)
         have p3:0<Y1*D:=Int.mul_pos (by omega) EH;have p4:0<Y1*D:=Int.mul_pos (by omega) EH;have w1:IntKind.i64.wrap (X1*G)=X1*G:=iw_ _ (by omega);have w2:IntKind.i64.wrap (X2*G)=X2*G:=iw_ _ (by omega);have w3:IntKind.i64.wrap (Y1*D)=Y1*D:=iw_ _ (by omega);have w4:IntKind.i64.wrap (Y1*D)=Y1*D:=iw_ _ (by omega);have D1:Hid (∀ W,Kc Tryz.prog 287 #[.int .i64 (X1*G),.int .i64 (Y1*D)] W (.int .i64 (X1*G/(Y1*D)))):=fun W=>Qd W _ _ (by omega) p3 (by omega)
         have D2:Hid (∀ W,Kc Tryz.prog 287 #[.int .i64 (X2*G),.int .i64 (Y1*D)] W (.int .i64 (X2*G/(Y1*D)))):=fun W=>Qd W _ _ (by omega) p4 (by omega)
         have q5:((X1*G/(Y1*D)).natAbs:Int)<=4000000000000000000:=by
          have:=Int.natAbs_ediv_le_natAbs (X1*G) (Y1*D)
          omega
         have Hq:Hid (X1*G/(Y1*D)=X2*G/(Y1*D)->Zug tx ty d g (X1*G/(Y1*D))):=fun h=>by
          obtain⟨o1,o2,o3⟩:=eU.o;obtain⟨u1,u2,u3⟩:=eI.o;refine⟨o1,u1,?_,by omega,by omega⟩;rw[<- o2,<- o3,<- u2,<- u3,<- eX.o,<- eV.o];refine .inl ⟨by omega,?_,?_⟩
          ·unfold LN.quoL;rw[if_pos (by omega)]
          ·unfold LN.quoH;rw[if_neg (by omega)];exact h.symm
         clear r1 r2 r3 r4 p3 p4 q5 eU eI eX eV;obtain⟨q1,Gd⟩:∃ q,X1*G/(Y1*D)=q:=⟨_,rfl⟩;obtain⟨q2,gQ⟩:∃ q,X2*G/(Y1*D)=q:=⟨_,rfl⟩;rw[Gd] at D1 Hq;rw[gQ] at D2 Hq;clear Gd gQ;go_enter Tryz.func240,Tryz.ntmps240;go_wp2_with fail;generalize (w.alloc (.cells (Kk x1 e1 x2 e2 n d) 146)).alloc (.cells (Kk y1 g1 y2 g2 m g) 146)=W0 at *;refine cm_ (gN.o _ B0.o) ?_;rintro e W1 ⟨rfl,hb⟩;have B1:=bt_ B0 hb;have R3:=hk_ R1 hb;have R4:=hk_ R2 hb;clear hb B0 R1 R2 gN;obtain⟨k0,k1,k2,-⟩:=Kd R3.o;obtain⟨m0,m1,m2,-⟩:=Kd R4.o;go_wp2_with fail;refine cm_ (GD.o _ B1.o) ?_;rintro e W2 ⟨rfl,hb⟩;have B2:=bt_ B1 hb;have R5:=hk_ R3 hb;have R6:=hk_ R4 hb;clear hb B1 R3 R4 GD k0 k1 k2 m0 m1 m2;obtain⟨k0,k1,k2,-⟩:=Kd R5.o;go_wp2_with fail;refine cm_ (fk.o _ B2.o) ?_;rintro e W3 ⟨rfl,hb⟩;have B3:=bt_ B2 hb;have R8:=hk_ R6 hb;clear hb B2 R5 R6 fk k0 k1 k2;obtain⟨m0,m1,m2,-⟩:=Kd R8.o;go_wp2_with fail;refine cm_ (gI.o _ B3.o) ?_;rintro e W4 ⟨rfl,hb⟩;have B4:=bt_ B3 hb;clear hb B3 R8 gI m0 m1 m2;go_wp2_with fail;refine cm_ (D1.o _) ?_;rintro e W5 ⟨rfl,hb⟩;have B5:=bt_ B4 hb;clear hb B4;go_wp2_with fail;refine cm_ (D2.o _) ?_;rintro e W6 ⟨rfl,hb⟩;have B6:=bt_ B5 hb;clear hb B5;go_wp2_with fail
         go_ret2
         exact⟨q1,q1==q2,rfl,fun h=>Hq.o (by simpa using h),B6.o⟩
       ·by_cases fh:X2<0
        ·skip
         have r1:(X1*G).natAbs<=300000000000000*10000:=by rw[Int.natAbs_mul];exact Nat.mul_le_mul (by omega) (by omega)
         have r2:(X2*G).natAbs<=300000000000000*10000:=by rw[Int.natAbs_mul];exact Nat.mul_le_mul (by omega) (by omega)
         have r3:(Y2*D).natAbs<=300000000000000*10000:=by rw[Int.natAbs_mul];exact Nat.mul_le_mul (by omega) (by omega)
         have r4:(Y2*D).natAbs<=300000000000000*10000:=by rw[Int.natAbs_mul];exact Nat.mul_le_mul (by omega) (by omega)
         have p3:0<Y2*D:=Int.mul_pos (by omega) EH;have p4:0<Y2*D:=Int.mul_pos (by omega) EH;have w1:IntKind.i64.wrap (X1*G)=X1*G:=iw_ _ (by omega);have w2:IntKind.i64.wrap (X2*G)=X2*G:=iw_ _ (by omega);have w3:IntKind.i64.wrap (Y2*D)=Y2*D:=iw_ _ (by omega);have w4:IntKind.i64.wrap (Y2*D)=Y2*D:=iw_ _ (by omega);have D1:Hid (∀ W,Kc Tryz.prog 287 #[.int .i64 (X1*G),.int .i64 (Y2*D)] W (.int .i64 (X1*G/(Y2*D)))):=fun W=>Qd W _ _ (by omega) p3 (by omega)
         have D2:Hid (∀ W,Kc Tryz.prog 287 #[.int .i64 (X2*G),.int .i64 (Y2*D)] W (.int .i64 (X2*G/(Y2*D)))):=fun W=>Qd W _ _ (by omega) p4 (by omega)
         have q5:((X1*G/(Y2*D)).natAbs:Int)<=4000000000000000000:=by
          have:=Int.natAbs_ediv_le_natAbs (X1*G) (Y2*D)
          omega
         have Hq:Hid (X1*G/(Y2*D)=X2*G/(Y2*D)->Zug tx ty d g (X1*G/(Y2*D))):=fun h=>by
          obtain⟨o1,o2,o3⟩:=eU.o;obtain⟨u1,u2,u3⟩:=eI.o;refine⟨o1,u1,?_,by omega,by omega⟩;rw[<- o2,<- o3,<- u2,<- u3,<- eX.o,<- eV.o];refine .inl ⟨by omega,?_,?_⟩
          ·unfold LN.quoL;rw[if_neg (by omega)]
          ·unfold LN.quoH;rw[if_pos (by omega)];exact h.symm
         clear r1 r2 r3 r4 p3 p4 q5 eU eI eX eV;obtain⟨q1,Gd⟩:∃ q,X1*G/(Y2*D)=q:=⟨_,rfl⟩;obtain⟨q2,gQ⟩:∃ q,X2*G/(Y2*D)=q:=⟨_,rfl⟩;rw[Gd] at D1 Hq;rw[gQ] at D2 Hq;clear Gd gQ;go_enter Tryz.func240,Tryz.ntmps240;go_wp2_with fail;generalize (w.alloc (.cells (Kk x1 e1 x2 e2 n d) 146)).alloc (.cells (Kk y1 g1 y2 g2 m g) 146)=W0 at *;refine cm_ (gN.o _ B0.o) ?_;rintro e W1 ⟨rfl,hb⟩;have B1:=bt_ B0 hb;have R3:=hk_ R1 hb;have R4:=hk_ R2 hb;clear hb B0 R1 R2 gN;obtain⟨k0,k1,k2,-⟩:=Kd R3.o;obtain⟨m0,m1,m2,-⟩:=Kd R4.o;go_wp2_with fail;refine cm_ (GD.o _ B1.o) ?_;rintro e W2 ⟨rfl,hb⟩;have B2:=bt_ B1 hb;have R5:=hk_ R3 hb;have R6:=hk_ R4 hb;clear hb B1 R3 R4 GD k0 k1 k2 m0 m1 m2;obtain⟨k0,k1,k2,-⟩:=Kd R5.o;go_wp2_with fail;refine cm_ (fk.o _ B2.o) ?_;rintro e W3 ⟨rfl,hb⟩;have B3:=bt_ B2 hb;have R8:=hk_ R6 hb;clear hb B2 R5 R6 fk k0 k1 k2;obtain⟨m0,m1,m2,-⟩:=Kd R8.o;go_wp2_with fail;refine cm_ (gI.o _ B3.o) ?_;rintro e W4 ⟨rfl,hb⟩;have B4:=bt_ B3 hb;clear hb B3 R8 gI m0 m1 m2;go_wp2_with fail;refine cm_ (D1.o _) ?_;rintro e W5 ⟨rfl,hb⟩;have B5:=bt_ B4 hb;clear hb B4;go_wp2_with fail;refine cm_ (D2.o _) ?_;rintro e W6 ⟨rfl,hb⟩;have B6:=bt_ B5 hb;clear hb B5;go_wp2_with fail
         go_ret2
         exact⟨q1,q1==q2,rfl,fun h=>Hq.o (by simpa using h),B6.o⟩
        ·skip
         have r1:(X1*G).natAbs<=300000000000000*10000:=by rw[Int.natAbs_mul];exact Nat.mul_le_mul (by omega) (by omega)
         have r2:(X2*G).natAbs<=300000000000000*10000:=by rw[Int.natAbs_mul];exact Nat.mul_le_mul (by omega) (by omega)
         have r3:(Y2*D).natAbs<=300000000000000*10000:=by rw[Int.natAbs_mul];exact Nat.mul_le_mul (by omega) (by omega)
         have r4:(Y1*D).natAbs<=300000000000000*10000:=by rw[Int.natAbs_mul];exact Nat.mul_le_mul (by omega) (by omega)
         have p3:0<Y2*D:=Int.mul_pos (by omega) EH;have p4:0<Y1*D:=Int.mul_pos (by omega) EH;have w1:IntKind.i64.wrap (X1*G)=X1*G:=iw_ _ (by omega);have w2:IntKind.i64.wrap (X2*G)=X2*G:=iw_ _ (by omega);have w3:IntKind.i64.wrap (Y2*D)=Y2*D:=iw_ _ (by omega);have w4:IntKind.i64.wrap (Y1*D)=Y1*D:=iw_ _ (by omega);have D1:Hid (∀ W,Kc Tryz.prog 287 #[.int .i64 (X1*G),.int .i64 (Y2*D)] W (.int .i64 (X1*G/(Y2*D)))):=fun W=>Qd W _ _ (by omega) p3 (by omega)
         have D2:Hid (∀ W,Kc Tryz.prog 287 #[.int .i64 (X2*G),.int .i64 (Y1*D)] W (.int .i64 (X2*G/(Y1*D)))):=fun W=>Qd W _ _ (by omega) p4 (by omega)
         have q5:((X1*G/(Y2*D)).natAbs:Int)<=4000000000000000000:=by
          have:=Int.natAbs_ediv_le_natAbs (X1*G) (Y2*D)
          omega
         have Hq:Hid (X1*G/(Y2*D)=X2*G/(Y1*D)->Zug tx ty d g (X1*G/(Y2*D))):=fun h=>by
          obtain⟨o1,o2,o3⟩:=eU.o;obtain⟨u1,u2,u3⟩:=eI.o;refine⟨o1,u1,?_,by omega,by omega⟩;rw[<- o2,<- o3,<- u2,<- u3,<- eX.o,<- eV.o];refine .inl ⟨by omega,?_,?_⟩
          ·unfold LN.quoL;rw[if_neg (by omega)]
          ·unfold LN.quoH;rw[if_neg (by omega)];exact h.symm
         clear r1 r2 r3 r4 p3 p4 q5 eU eI eX eV;obtain⟨q1,Gd⟩:∃ q,X1*G/(Y2*D)=q:=⟨_,rfl⟩;obtain⟨q2,gQ⟩:∃ q,X2*G/(Y1*D)=q:=⟨_,rfl⟩;rw[Gd] at D1 Hq;rw[gQ] at D2 Hq;clear Gd gQ;go_enter Tryz.func240,Tryz.ntmps240;go_wp2_with fail;generalize (w.alloc (.cells (Kk x1 e1 x2 e2 n d) 146)).alloc (.cells (Kk y1 g1 y2 g2 m g) 146)=W0 at *;refine cm_ (gN.o _ B0.o) ?_;rintro e W1 ⟨rfl,hb⟩;have B1:=bt_ B0 hb;have R3:=hk_ R1 hb;have R4:=hk_ R2 hb;clear hb B0 R1 R2 gN;obtain⟨k0,k1,k2,-⟩:=Kd R3.o;obtain⟨m0,m1,m2,-⟩:=Kd R4.o;go_wp2_with fail;refine cm_ (GD.o _ B1.o) ?_;rintro e W2 ⟨rfl,hb⟩;have B2:=bt_ B1 hb;have R5:=hk_ R3 hb;have R6:=hk_ R4 hb;clear hb B1 R3 R4 GD k0 k1 k2 m0 m1 m2;obtain⟨k0,k1,k2,-⟩:=Kd R5.o;go_wp2_with fail;refine cm_ (fk.o _ B2.o) ?_;rintro e W3 ⟨rfl,hb⟩;have B3:=bt_ B2 hb;have R8:=hk_ R6 hb;clear hb B2 R5 R6 fk k0 k1 k2;obtain⟨m0,m1,m2,-⟩:=Kd R8.o;go_wp2_with fail;refine cm_ (gI.o _ B3.o) ?_;rintro e W4 ⟨rfl,hb⟩;have B4:=bt_ B3 hb;clear hb B3 R8 gI m0 m1 m2;go_wp2_with fail;refine cm_ (D1.o _) ?_;rintro e W5 ⟨rfl,hb⟩;have B5:=bt_ B4 hb;clear hb B4;go_wp2_with fail;refine cm_ (D2.o _) ?_;rintro e W6 ⟨rfl,hb⟩;have B6:=bt_ B5 hb;clear hb B5;go_wp2_with fail
         go_ret2
         exact⟨q1,q1==q2,rfl,fun h=>Hq.o (by simpa using h),B6.o⟩
def flE (xl xh yl yh g d:Int):Option Int:=if yl<=0 then none else if LN.quoL xl yl yh g d=LN.quoH xh yl yh g d then some (LN.quoL xl yl yh g d) else none
def flS (xl xh yl yh g d:Int):Option Int:=if yh<=0 then flE (-xh) (-xl) (-yh) (-yl) g d else flE xl xh yl yh g d
def Zxx (n:Nat) (tx ty:List (Int×Int)) (d g:Nat):Option Int:=flS (LN.eLo (lf n) tx) (LN.eHi (lf n) tx) (LN.eLo (lf n) ty) (LN.eHi (lf n) ty) g d
theorem Zrx(f:Int->Nat):∀ l:List (Int×Int),LN.eLo f l<=LN.eHi f l
 | []=>Int.le_refl _
 | x::l=>by
  have ih:=Zrx f l;have e1:LN.eLo f (x::l)=(if x.2<0 then x.2*(LN.hiL f x.1:Int) else x.2*(f x.1:Int))+LN.eLo f l:=by simp[LN.eLo]
  have e2:LN.eHi f (x::l)=(if x.2<0 then x.2*(f x.1:Int) else x.2*(LN.hiL f x.1:Int))+LN.eHi f l:=by simp[LN.eHi]
  have fO:f x.1<=LN.hiL f x.1:=by unfold LN.hiL;split<;>omega
  rw[e1,e2]
  by_cases hk:x.2<0
  ·have h1:x.2*(LN.hiL f x.1:Int)<=x.2*(f x.1:Int):=Int.mul_le_mul_of_nonpos_left (by omega) (by omega);rw[if_pos hk,if_pos hk];omega
  ·have h1:x.2*(f x.1:Int)<=x.2*(LN.hiL f x.1:Int):=Int.mul_le_mul_of_nonneg_left (by omega) (by omega);rw[if_neg hk,if_neg hk];omega
theorem Zrn{xl xh yl yh g d q:Int}(h:flE xl xh yl yh g d=some q):0<yl/\LN.quoL xl yl yh g d=q/\LN.quoH xh yl yh g d=q:=by
 unfold flE at h;split at h
 ·cases h
 ·rename_i h1
  split at h
  ·rename_i h2
   have h3:LN.quoL xl yl yh g d=q:=by simpa using h
   exact⟨by omega,h3,by rw[<- h2];exact h3⟩
  ·cases h
theorem Zgk{ps:List Int}(h:∀ p∈ps,p∈Zd1){n:Nat}(hn:n<=1056):∀ p∈ps,LN.LogAt n p (lf n p):=fun p hp=>by
 obtain⟨q,rfl,hq⟩:=Zbx (h p hp);exact Zv8 hq hn
theorem Zb8{ps:List Int}(h:∀ p∈ps,p∈Zd1):∀ p∈ps,0<p:=fun p hp=>by
 have Ge:∀ q∈Zd1,0<q:=by decide
 exact Ge p (h p hp)
theorem Zty{ps:List Int}{la lb:List Rat}(h:∀ p∈ps,p∈Zd1)(hl:la.length=lb.length){n:Nat}(hn:n<=1056){q:Int}(hq:Zxx n (tlQ ps la) (tlQ ps lb) (Ko la) (Ko lb)=some q):LN.FloorOf ps la lb q:=by
 unfold Zxx flS at hq;have hy:=Zrx (lf n) (tlQ ps lb);split at hq
 ·obtain⟨h1,h2,h3⟩:=Zrn hq;exact LN.floor_neg (Zb8 h) hl (Zgk h hn) rfl rfl rfl rfl (by show LN.eHi (lf n) (tlQ ps lb)<0;omega) hy h2 h3
 ·obtain⟨h1,h2,h3⟩:=Zrn hq;exact LN.floor_pos (Zb8 h) hl (Zgk h hn) rfl rfl rfl rfl h1 hy h2 h3
theorem Zs3{ps:List Int}{la lb:List Rat}(h:∀ p∈ps,p∈Zd1)(hl:la.length=lb.length){q:Int}(hq:Zug (tlQ ps la) (tlQ ps lb) (Ko la) (Ko lb) q):LN.FloorOf ps la lb q:=by
 have pa:PrT (tlQ ps la):=fun x hx=>Zbx (h _ (Qm hx).1)
 have pb:PrT (tlQ ps lb):=fun x hx=>Zbx (h _ (Qm hx).1)
 obtain⟨a1,a2⟩:=Zo4 _ pa hq.okx;obtain⟨b1,b2⟩:=Zo4 _ pb hq.oky;have hr:=hq.r;rw[a1,a2,b1,b2] at hr;have hy:=Zrx (lf 26) (tlQ ps lb);rcases hr with⟨h1,h2,h3⟩|⟨h1,h2,h3⟩
 ·exact LN.floor_pos (Zb8 h) hl (Zgk h (by decide)) rfl rfl rfl rfl h1 hy h2 h3
 ·exact LN.floor_neg (Zb8 h) hl (Zgk h (by decide)) rfl rfl rfl rfl h1 hy h2 h3
theorem Zom{ps:List Int}{la lb:List Rat}(h:∀ p∈ps,p∈Zd1)(h1:la.length=ps.length)(h2:lb.length=ps.length){k:Rat}(hr:Zee la lb ps.length k=true)(h0:LN.sz ps lb≠0):LN.FloorOf ps la lb k.floor:=by
 refine LN.floor_mult (Zb8 h) (k:=k) ?_ h0;have FT:=of_decide_eq_true hr;refine List.ext_getElem (by simp;omega) fun i i1 i2=>?_
 have:=FT i (by omega)
 rw[List.getElem_map];rw[List.getD_eq_getElem?_getD,List.getD_eq_getElem?_getD,List.getElem?_eq_getElem (by omega),List.getElem?_eq_getElem i1] at this;exact this.symm
theorem Qg3(w:World)(a b:Int)(K:Nat)(hK:K<90000)(ha:a.natAbs<2^K)(hb:b.natAbs<2^K)(h0:0<b)(L:Qg w):Kc Tryz.prog 163 #[.string (itx a),.string (itx b)] w (.tuple #[.string (itx (a/b)),.string (itx (a%b)),.int .i64 0]):=by
 obtain⟨n,rfl⟩:=Int.eq_ofNat_of_zero_le (Int.le_of_lt h0);have hs:Num (a.natAbs+1):=Va (K:=K+1) (by rw[Nat.pow_succ];omega) (by omega);have:=Yj w a n (Va ha (by omega)) (Va hb (by omega)) (by omega) hs L
 rw[Kg];exact this
theorem Zbi(a b:Int):((itx a).toList==(itx b).toList)=decide (a=b):=by
 by_cases h:a=b
 ·subst h;simp
 ·rw[decide_eq_false h,beq_eq_false_iff_ne];intro e;rw[Vp,Vp] at e;exact h (Zk7 (by
   have h1:(itx a).data.toList=(itx b).data.toList:=e;exact ByteArray.ext (Array.toList_inj.1 h1)))
def Qc9 (ps:List Int) (la lb:List Rat) (e:Ending):Prop:=∃ q,e = .returned (.string (itx q))/\LN.FloorOf ps la lb q
structure Zud (ps:List Int) (la lb:List Rat) (E:Nat):Prop where
 pr:∀ p∈ps,p∈Zd1
 n6:ps.length<=6
 kx:∀ x∈tlQ ps la,x.2.natAbs<2^E
 ky:∀ x∈tlQ ps lb,x.2.natAbs<2^E
 d:Ko la<2^E
 g:Ko lb<2^E
 e:E<=3000
 nz:LN.sz ps lb≠0
 dec:Zee la lb ps.length (Yb la lb ps.length)=false->Zxx 1024 (tlQ ps la) (tlQ ps lb) (Ko la) (Ko lb)≠none
theorem Zwm(w:World)(ps:List Int)(a0 a1 a2:OA_)(c0 c1 c2 D E:Nat)(la lb:List Rat)(A:Vj w ps a0 a1 la D)(B:Vj w ps a0 a2 lb D)(hD0:0<D)(F:Zud ps la lb E)(L:Qg w):
  Calls Tryz.prog 181 #[.slice a0 ps.length c0,.slice a1 la.length c1,.slice a2 lb.length c2] w fun e w'=>Qc9 ps la lb e/\Bw_ w w':=by
 cases hr:Zee la lb ps.length (Yb la lb ps.length) with
 | true =>
  refine Calls.mono (Zpm w ps a0 a1 a2 c0 c1 c2 D la lb A B hD0 L hr) ?_;rintro e w' ⟨rfl,hb⟩;exact⟨⟨_,rfl,Zom F.pr A.len B.len hr F.nz⟩,hb⟩
 | false =>
  have hn:=A.n;have Cz:=A.d;have HL:=hd_ L;have HF:=hd_ F;have iv:=hd_ (F.dec hr);have Dk:=hd_ (Zmo w a1 a2 c1 c2 ps.length D la lb A.rl B.rl A.len B.len A.sm B.sm (by omega) hD0 Cz L);rw[hr] at Dk;have LS:Hid (∀ W,Bw_ w W->Calls Tryz.prog 79 #[.slice a0 ps.length c0,.slice a1 ps.length c1] W fun e w'=>∃ b1 d1 b2 d2,e = .returned (.agg (Kk b1 d1 b2 d2 (tlQ ps la).length (Ko la)))/\Ym w' (tlQ ps la) b1 b2/\Bw_ W w'):=fun W hW=>by
   have:=Zj7 (c0:=c0) (c:=c1) (A.below hW) (L.below hW)
   rw[A.len] at this;exact this
  have LR:Hid (∀ W,Bw_ w W->Calls Tryz.prog 79 #[.slice a0 ps.length c0,.slice a2 ps.length c2] W fun e w'=>∃ b1 d1 b2 d2,e = .returned (.agg (Kk b1 d1 b2 d2 (tlQ ps lb).length (Ko lb)))/\Ym w' (tlQ ps lb) b1 b2/\Bw_ W w'):=fun W hW=>by
   have:=Zj7 (c0:=c0) (c:=c2) (B.below hW) (L.below hW)
   rw[B.len] at this;exact this
  have hE:=F.e;have lx:(tlQ ps la).length<=6:=Nat.le_trans (by have:=(Vz (Ko la) ps la).length_le;rw[List.length_map] at this;exact this) F.n6;have ly:(tlQ ps lb).length<=6:=Nat.le_trans (by have:=(Vz (Ko lb) ps lb).length_le;rw[List.length_map] at this;exact this) F.n6;have G':=LN.tden_pos' la;have fK:=LN.tden_pos' lb;have px:PrT (tlQ ps la):=fun x hx=>Zbx (F.pr _ (Qm hx).1)
  have py:PrT (tlQ ps lb):=fun x hx=>Zbx (F.pr _ (Qm hx).1)
  have DE:la.length=lb.length:=A.len.trans B.len.symm;have LY:Hid (∀ W x1 x2 y1 y2 e1 e2 g1 g2,Ym W (tlQ ps la) x1 x2->Ym W (tlQ ps lb) y1 y2->Qg W->Calls Tryz.prog 240 #[.agg (Kk x1 e1 x2 e2 (tlQ ps la).length (Ko la)),.agg (Kk y1 g1 y2 g2 (tlQ ps lb).length (Ko lb))] W fun e w'=>∃ q b,e = .returned (.tuple #[.int .i64 q,.bool b])/\(b=true->Zug (tlQ ps la) (tlQ ps lb) (Ko la) (Ko lb) q)/\Bw_ W w'):=fun W x1 x2 y1 y2 e1 e2 g1 g2 X Y LW =>
   Zmp W x1 x2 y1 y2 e1 e2 g1 g2 _ _ _ _ X Y lx ly (Va F.d (by omega)) (Va F.g (by omega)) G' fK LW
  have Gj:Hid (∀ W q,-9223372036854775808<=q->q<=9223372036854775807->Bw_ w W->Kc Tryz.prog 13 #[.int .i64 q] W (.string (itx q))):=fun W q h1 h2 hW=>Zam W q h1 h2 (L.below hW)
  have LZ:Hid (∀ q,Zug (tlQ ps la) (tlQ ps lb) (Ko la) (Ko lb) q->LN.FloorOf ps la lb q):=fun q h=>Zs3 F.pr DE h
  have mw:Hid (∀ n q,n<=1056->Zxx n (tlQ ps la) (tlQ ps lb) (Ko la) (Ko lb)=some q->LN.FloorOf ps la lb q):=fun n q hn h=>Zty F.pr DE hn h
  have it:Hid (∀ (n:Nat) W x1 x2 e1 e2,n<=1056->Ym W (tlQ ps la) x1 x2->Qg W->Kc Tryz.prog 165 #[.agg (Kk x1 e1 x2 e2 (tlQ ps la).length (Ko la)),.int .i64 n] W (.tuple #[.string (itx (LN.eLo (lf n) (tlQ ps la))),.string (itx (LN.eHi (lf n) (tlQ ps la)))])):=fun n W x1 x2 e1 e2 hn T LW =>
   Zrv W x1 x2 e1 e2 _ n E _ T px (by omega) F.kx hn LW
  have ir:Hid (∀ (n:Nat) W x1 x2 e1 e2,n<=1056->Ym W (tlQ ps lb) x1 x2->Qg W->Kc Tryz.prog 165 #[.agg (Kk x1 e1 x2 e2 (tlQ ps lb).length (Ko lb)),.int .i64 n] W (.tuple #[.string (itx (LN.eLo (lf n) (tlQ ps lb))),.string (itx (LN.eHi (lf n) (tlQ ps lb)))])):=fun n W x1 x2 e1 e2 hn T LW =>
   Zrv W x1 x2 e1 e2 _ n E _ T py (by omega) F.ky hn LW
  obtain⟨K,hK⟩:∃ K:Nat,K=E+1060+10:=⟨_,rfl⟩;have mC:Hid (∀ n:Nat,n<=1024->(LN.eLo (lf n) (tlQ ps la)).natAbs<2^K/\(LN.eHi (lf n) (tlQ ps la)).natAbs<2^K):=fun n hn=>by
   obtain⟨h1,h2⟩:=Zli (n:=n) (E:=E) (by omega) (tlQ ps la) (by omega) px F.kx;exact⟨Nat.lt_of_lt_of_le h1 (Nat.pow_le_pow_right (by decide) (by omega)),Nat.lt_of_lt_of_le h2 (Nat.pow_le_pow_right (by decide) (by omega))⟩
  have mB:Hid (∀ n:Nat,n<=1024->(LN.eLo (lf n) (tlQ ps lb)).natAbs<2^K/\(LN.eHi (lf n) (tlQ ps lb)).natAbs<2^K):=fun n hn=>by
   obtain⟨h1,h2⟩:=Zli (n:=n) (E:=E) (by omega) (tlQ ps lb) (by omega) py F.ky;exact⟨Nat.lt_of_lt_of_le h1 (Nat.pow_le_pow_right (by decide) (by omega)),Nat.lt_of_lt_of_le h2 (Nat.pow_le_pow_right (by decide) (by omega))⟩
  have Io:K+K<90000:=by omega
  have jM:Ko la<2^K:=Nat.lt_of_lt_of_le F.d (Nat.pow_le_pow_right (by decide) (by omega));have jI:Ko lb<2^K:=Nat.lt_of_lt_of_le F.g (Nat.pow_le_pow_right (by decide) (by omega));have HS:Hid (∀ (z:Int) W,Kc Tryz.prog 59 #[.string (itx z)] W (.int .i64 z.sign)):=fun z W=>Ys W z
  have HN:Hid (∀ (z:Int) W,z.natAbs<2^K->Kc Tryz.prog 241 #[.string (itx z)] W (.string (itx (-z)))):=fun z W hz=>Zoy W z (Va hz (by omega))
  have EK:Hid (∀ (a:Int) W,a.natAbs<2^K->Bw_ w W->Kc Tryz.prog 14 #[.string (itx a),.string (dec (Ko la))] W (.string (itx (a*(Ko la:Int))))):=fun a W ha hW=>by
   have:=Qfj W a (Ko la:Int) K K Io ha (by rw[Int.natAbs_natCast];exact jM) (L.below hW)
   rw[Kg] at this;exact this
  have EJ:Hid (∀ (a:Int) W,a.natAbs<2^K->Bw_ w W->Kc Tryz.prog 14 #[.string (itx a),.string (dec (Ko lb))] W (.string (itx (a*(Ko lb:Int))))):=fun a W ha hW=>by
   have:=Qfj W a (Ko lb:Int) K K Io ha (by rw[Int.natAbs_natCast];exact jI) (L.below hW)
   rw[Kg] at this;exact this
  have en:Hid (∀ (a b:Int) W,a.natAbs<2^K->b.natAbs<2^K->0<b->Bw_ w W->Kc Tryz.prog 163 #[.string (itx (a*(Ko lb:Int))),.string (itx (b*(Ko la:Int)))] W (.tuple #[.string (itx (a*(Ko lb:Int)/(b*(Ko la:Int)))),.string (itx (a*(Ko lb:Int)%(b*(Ko la:Int)))),.int .i64 0])):=fun a b W ha hb Gu hW =>
   Qg3 W _ _ (K+K) Io (Zaz ha jI) (Zaz hb jM) (Int.mul_pos Gu (by omega)) (L.below hW)
  have E1:Hid (∀ n,Zxx n (tlQ ps la) (tlQ ps lb) (Ko la) (Ko lb)=flS (LN.eLo (lf n) (tlQ ps la)) (LN.eHi (lf n) (tlQ ps la)) (LN.eLo (lf n) (tlQ ps lb)) (LN.eHi (lf n) (tlQ ps lb)) (Ko lb) (Ko la)):=fun n=>rfl
  unfold fr fv at Dk;rw[A.len,B.len];clear A B L hr F hn Cz hE lx ly G' fK px py DE hK Io jM jI hD0;generalize Yb la lb ps.length=k at *;generalize tlQ ps la=tx at *;generalize tlQ ps lb=ty at *;generalize Ko la=dx at *;generalize Ko lb=dy at *;go_enter Tryz.func181,Tryz.ntmps181;go_wp2_with fail;refine cm_ Dk.o ?_;rintro e w1 ⟨rfl,hb⟩;have B2:=hd_ (hb.alloc hb.size (.cells #[.string (itx k.num),.string (dec k.den)] 101));clear hb Dk;go_wp2_with fail;generalize w1.alloc (.cells #[.string (itx k.num),.string (dec k.den)] 101)=w2 at *;refine cm_ (LS.o _ B2.o) ?_;rintro e w3 ⟨b1,d1,b2,d2,rfl,X,hb⟩;have B3:=bt_ B2 hb;have HX:=hd_ X;clear hb LS X B2;go_wp2_with fail;refine cm_ (LR.o _ B3.o) ?_;rintro e w4 ⟨b3,d3,b4,d4,rfl,Y,hb⟩;have B4:=bt_ B3 hb;have mF:=hd_ (HX.o.below hb);have HY:=hd_ Y;clear hb LR Y B3 HX;go_wp2_with fail;have Bx:=hd_ (((Below.refl w4.heap.size w4).alloc nr_ (.cells #[.slice b1 tx.length d1,.slice b2 tx.length d2,.string (dec dx)] 146)).alloc ((Below.refl w4.heap.size w4).alloc nr_ (.cells #[.slice b1 tx.length d1,.slice b2 tx.length d2,.string (dec dx)] 146)).size (.cells #[.slice b3 ty.length d3,.slice b4 ty.length d4,.string (dec dy)] 146));have S1:=hd_ (Kj (Qe w4 #[.slice b1 tx.length d1,.slice b2 tx.length d2,.string (dec dx)] 146 _ rfl) (.cells #[.slice b3 ty.length d3,.slice b4 ty.length d4,.string (dec dy)] 146));have S2:=hd_ (Qe (w4.alloc (.cells #[.slice b1 tx.length d1,.slice b2 tx.length d2,.string (dec dx)] 146)) #[.slice b3 ty.length d3,.slice b4 ty.length d4,.string (dec dy)] 146 (w4.heap.size+1) (by show (w4.heap.push _).size=_;exact Array.size_push ..));have JT:=hd_ (mF.o.below Bx.o);have JR:=hd_ (HY.o.below Bx.o);have B5:=bt_ B4 Bx.o;clear mF HY Bx;generalize hN:w4.heap.size=N9 at *;generalize (w4.alloc (.cells #[.slice b1 tx.length d1,.slice b2 tx.length d2,.string (dec dx)] 146)).alloc (.cells #[.slice b3 ty.length d3,.slice b4 ty.length d4,.string (dec dy)] 146)=w5 at *;clear hN B4;refine cm_ (LY.o _ _ _ _ _ d1 d2 d3 d4 JT.o JR.o (HL.o.below B5.o)) ?_;rintro e w6 ⟨q0,bq,rfl,hq0,hb⟩;have B6:=bt_ B5 hb;have T1:=hk_ S1 hb;have T2:=hk_ S2 hb;have mE:=hd_ (JT.o.below hb);have mD:=hd_ (JR.o.below hb);have AW:=hd_ hq0;clear hb LY JT JR S1 S2 B5 hq0;cases bq with
  | true =>
   have Id:=AW.o rfl;have Nj:=hd_ (LZ.o q0 Id);have mc:=hd_ (Gj.o w6 q0 (by have:=Id.lo;omega) (by have:=Id.hi;omega) B6.o);clear Id;go_wp2_with fail;refine cm_ mc.o ?_;rintro e w7 ⟨rfl,hb⟩;have B7:=bt_ B6 hb;clear hb mc;go_wp2_with fail;go_ret;exact⟨⟨q0,rfl,Nj.o⟩,B7.o⟩
  | false =>
   clear AW LZ Gj;go_wp2_with fail
   go_loopw [13] (fun a wr=>∃ (n:Nat),Hid (Pw n)/\n<=1024/\a = .int .i64 n/\Hid (Bw_ w wr)/\Hid (wr.heap[N9]?=some (.cells #[.slice b1 tx.length d1,.slice b2 tx.length d2,.string (dec dx)] 146 (0,0)))/\Hid (wr.heap[N9+1]?=some (.cells #[.slice b3 ty.length d3,.slice b4 ty.length d4,.string (dec dy)] 146 (0,0)))/\Hid (Ym wr tx b1 b2)/\Hid (Ym wr ty b3 b4)) (fun a _=>1024-(intOf a).toNat)
   case atStart=>exact⟨64,.inl rfl,by decide,rfl,B6,T1,T2,mE,mD⟩
   case round =>
    clear B6 T1 T2 mE mD;obtain⟨n,Hp,hn,rfl,B1,T1,T2,HX,HY⟩:=hrel;obtain⟨vx1,vx2⟩:=mC.o n hn;obtain⟨vy1,vy2⟩:=mB.o n hn;have eW:=hd_ (it.o n wr b1 b2 d1 d2 (by omega) HX.o (HL.o.below B1.o));have FL:Hid (∀ W,Bw_ wr W->Kc Tryz.prog 165 #[.agg (Kk b3 d3 b4 d4 ty.length dy),.int .i64 n] W (.tuple #[.string (itx (LN.eLo (lf n) ty)),.string (itx (LN.eHi (lf n) ty))])):=fun W hW=>ir.o n W b3 b4 d3 d4 (by omega) (HY.o.below hW) (HL.o.below (bu_ B1 hW))
    have Hf:=hd_ (E1.o n);have gK:Hid (∀ q,Zxx n tx ty dx dy=some q->LN.FloorOf ps la lb q):=fun q h=>mw.o n q (by omega) h
    have e9:0<n:=by rcases Hp.o with h | h | h | h | h<;>omega
    have gN:Hid (Zxx n tx ty dx dy=none->n*2<=1024/\Pw (n*2)):=fun h=>by
     rcases Hp.o with e|e|e|e|e
     ·subst e;exact⟨by decide,.inr (.inl rfl)⟩
     ·subst e;exact⟨by decide,.inr (.inr (.inl rfl))⟩
     ·subst e;exact⟨by decide,.inr (.inr (.inr (.inl rfl)))⟩
     ·subst e;exact⟨by decide,.inr (.inr (.inr (.inr rfl)))⟩
     ·subst e;exact absurd h iv.o
    clear it ir E1 mw iv mC mB;have aP:=Zrx (lf n) ty;generalize Zxx n tx ty dx dy=fl at *;generalize LN.eLo (lf n) tx=xl at *;generalize LN.eHi (lf n) tx=xh at *;generalize LN.eLo (lf n) ty=yl at *;generalize LN.eHi (lf n) ty=yh at *;have lC:IntKind.i64.wrap ((n:Int)*2)=((n*2:Nat):Int):=by rw[show (n:Int)*2=((n*2:Nat):Int) by omega];exact iw_ _ (by omega)
    obtain⟨m0,m1,m2,-⟩:=Kd T1.o;go_wp2_with fail;refine cm_ eW.o ?_;rintro e_ w2 ⟨rfl,hb⟩;replace FL:=hd_ (FL.o w2 hb);have B2:=bt_ B1 hb;replace T1:=hk_ T1 hb;replace T2:=hk_ T2 hb;replace HX:=hd_ (HX.o.below hb);replace HY:=hd_ (HY.o.below hb);clear hb eW B1 m0 m1 m2;obtain⟨m0,m1,m2,-⟩:=Kd T2.o;go_wp2_with fail;clear m0 m1 m2;refine cm_ (FL.o) ?_;rintro e_ w3 ⟨rfl,hb⟩;have B3:=bt_ B2 hb;replace T1:=hk_ T1 hb;replace T2:=hk_ T2 hb;replace HX:=hd_ (HX.o.below hb);replace HY:=hd_ (HY.o.below hb);clear hb B2;clear FL;go_wp2_with fail;refine cm_ (HS.o yh _) ?_;rintro e_ w4 ⟨rfl,hb⟩;have B4:=bt_ B3 hb;replace T1:=hk_ T1 hb;replace T2:=hk_ T2 hb;replace HX:=hd_ (HX.o.below hb);replace HY:=hd_ (HY.o.below hb);clear hb B3
    by_cases hyh:yh<=0
    ·have jm:yh.sign<=0:=by have:=Kv yh;omega
     generalize yh.sign=sg0 at *;go_wp2_with fail;refine cm_ (HN.o xh _ (by omega)) ?_;rintro e_ w5 ⟨rfl,hb⟩;have B5:=bt_ B4 hb;replace T1:=hk_ T1 hb;replace T2:=hk_ T2 hb;replace HX:=hd_ (HX.o.below hb);replace HY:=hd_ (HY.o.below hb);clear hb B4;go_wp2_with fail;refine cm_ (HN.o xl _ (by omega)) ?_;rintro e_ w6 ⟨rfl,hb⟩;have B6:=bt_ B5 hb;replace T1:=hk_ T1 hb;replace T2:=hk_ T2 hb;replace HX:=hd_ (HX.o.below hb);replace HY:=hd_ (HY.o.below hb);clear hb B5;go_wp2_with fail;refine cm_ (HN.o yh _ (by omega)) ?_;rintro e_ w7 ⟨rfl,hb⟩;have B7:=bt_ B6 hb;replace T1:=hk_ T1 hb;replace T2:=hk_ T2 hb;replace HX:=hd_ (HX.o.below hb);replace HY:=hd_ (HY.o.below hb);clear hb B6;go_wp2_with fail;refine cm_ (HN.o yl _ (by omega)) ?_;rintro e_ w8 ⟨rfl,hb⟩;have B8:=bt_ B7 hb;replace T1:=hk_ T1 hb;replace T2:=hk_ T2 hb;replace HX:=hd_ (HX.o.below hb);replace HY:=hd_ (HY.o.below hb);clear hb B7;go_wp2_with fail;refine cm_ (HS.o (-yh) _) ?_;rintro e_ w9 ⟨rfl,hb⟩;have B9:=bt_ B8 hb;replace T1:=hk_ T1 hb;replace T2:=hk_ T2 hb;replace HX:=hd_ (HX.o.below hb);replace HY:=hd_ (HY.o.below hb);clear hb B8
     by_cases hyl2:(-yh)<=0
     ·have GB:(-yh).sign<=0:=by have:=Kv (-yh);omega
      have gS:fl=none:=by
       rw[Hf.o];unfold flS;rw[if_pos (by omega)];unfold flE;rw[if_pos (by omega)]
      obtain⟨hn2,gM⟩:=gN.o gS;have Fq:=hd_ gM;clear gS gK gN gM Hf;generalize (-yh).sign=sg at *;go_wp2_with fail
      go_roundw
      case rel=>exact⟨n*2,Fq,hn2,rfl,B9,T1,T2,HX,HY⟩
      case measure=>simp[intOf];omega
     ·have GB:0<(-yh).sign:=by have:=Kv (-yh);omega
      generalize (-yh).sign=sg at *;go_wp2_with fail;clear GB;refine cm_ (HS.o (-xh) _) ?_;rintro e_ w10 ⟨rfl,hb⟩;have Cn:=bt_ B9 hb;replace T1:=hk_ T1 hb;replace T2:=hk_ T2 hb;replace HX:=hd_ (HX.o.below hb);replace HY:=hd_ (HY.o.below hb);clear hb B9
      by_cases E':(-xh)<0
      ·have GB:(-xh).sign<0:=by have:=Kv (-xh);omega
       generalize (-xh).sign=sg at *;go_wp2_with fail;clear GB;refine cm_ (HS.o (-xl) _) ?_;rintro e_ w11 ⟨rfl,hb⟩;have Fl:=bt_ Cn hb;replace T1:=hk_ T1 hb;replace T2:=hk_ T2 hb;replace HX:=hd_ (HX.o.below hb);replace HY:=hd_ (HY.o.below hb);clear hb Cn
       by_cases fh:(-xl)<0
       ·have GB:(-xl).sign<0:=by have:=Kv (-xl);omega
        generalize (-xl).sign=sg at *;obtain⟨k0,k1,k2,-⟩:=Kd T1.o;obtain⟨m0,m1,m2,-⟩:=Kd T2.o;have s2:=BW.cell k2;have r2:=BW.cell m2;have gj:Nonempty (BW w11):=⟨⟨w11,Below.refl _ _⟩⟩;have I:Hid (Bw_ w11 w11.drew):=(Below.refl _ _).drew;go_wp2_with fail;clear k0 k1 k2 m0 m1 m2;refine RP.wp_region_readers 15 [(1,0),(1,1),(1,2),(1,4),(1,5),(1,6),(0,3),(0,7),(0,8),(2,9),(2,10),(2,11),(2,12),(0,13),(0,14),(0,15)] (fun w'=>∃ p:BW w11,w'=p.w) (by kernel_rfl) (by kernel_rfl) ?_ ?_
        ·exact⟨⟨_,I.o⟩,rfl⟩
        iterate 6 (refine wr_ rfl ?_;go_big_quiet_step (fail);refine wq_ ?_)
        clear gj s2 r2;refine wm_ rfl ?_;go_wp2_with fail;refine cm_ (EJ.o (-xh) _ (by omega) (Fl.o.drew)) ?_;rintro e_ wa ⟨rfl,hb⟩;have Wa:Hid (Bw_ w11 wa):=(Below.refl w11.heap.size w11).drew.trans hb;clear hb I;go_wp2_with fail;refine⟨⟨⟨_,Wa.o⟩,rfl⟩,?_⟩;refine wm_ rfl ?_;go_wp2_with fail;refine cm_ (EK.o (-yh) _ (by omega) (bu_ Fl Wa.o)) ?_;rintro e_ wb ⟨rfl,hb⟩;have Wb:=bt_ Wa hb;clear hb Wa;go_wp2_with fail;refine⟨⟨⟨_,Wb.o⟩,rfl⟩,?_⟩;refine wm_ rfl ?_;go_wp2_with fail;refine cm_ (en.o (-xh) (-yh) _ (by omega) (by omega) (by omega) (bu_ Fl Wb.o)) ?_;rintro e_ wc ⟨rfl,hb⟩;have Wc:=bt_ Wb hb;clear hb Wb;go_wp2_with fail;refine⟨⟨⟨_,Wc.o⟩,rfl⟩,?_⟩;refine wa_ rfl ?_
        go_big_quiet_step (fail)
        refine wq_ ?_;refine wa_ rfl ?_
        go_big_quiet_step (fail)
        refine wq_ ?_;refine wa_ rfl ?_
        go_big_quiet_step (fail)
        refine wq_ ?_;refine wa_ rfl ?_
        go_big_quiet_step (fail)
        refine wq_ ?_;refine wm_ rfl ?_;go_wp2_with fail;refine⟨⟨⟨_,Wc.o⟩,rfl⟩,?_⟩;refine wm_ rfl ?_;go_wp2_with fail;refine⟨⟨⟨_,Wc.o⟩,rfl⟩,?_⟩;refine wm_ rfl ?_;go_wp2_with fail;simp only[RP.walkR];have hb:=Wc.o;have fV:=bt_ Fl hb;replace T1:=hk_ T1 hb;replace T2:=hk_ T2 hb;replace HX:=hd_ (HX.o.below hb);replace HY:=hd_ (HY.o.below hb);clear hb Wc Fl;generalize wc=w12 at *;go_wp2_with fail;obtain⟨k0,k1,k2,-⟩:=Kd T1.o;obtain⟨m0,m1,m2,-⟩:=Kd T2.o;have s2:=BW.cell k2;have r2:=BW.cell m2;have gj:Nonempty (BW w12):=⟨⟨w12,Below.refl _ _⟩⟩;have I:Hid (Bw_ w12 w12.drew):=(Below.refl _ _).drew;go_wp2_with fail;clear k0 k1 k2 m0 m1 m2;refine RP.wp_region_readers 15 [(1,0),(1,1),(1,2),(1,4),(1,5),(1,6),(0,3),(0,7),(0,8),(2,9),(2,10),(2,11),(2,12),(0,13),(0,14),(0,15)] (fun w'=>∃ p:BW w12,w'=p.w) (by kernel_rfl) (by kernel_rfl) ?_ ?_
        ·exact⟨⟨_,I.o⟩,rfl⟩
        iterate 6 (refine wr_ rfl ?_;go_big_quiet_step (fail);refine wq_ ?_)
        clear gj s2 r2;refine wm_ rfl ?_;go_wp2_with fail;refine cm_ (EJ.o (-xl) _ (by omega) (fV.o.drew)) ?_;rintro e_ wa ⟨rfl,hb⟩;have Wa:Hid (Bw_ w12 wa):=(Below.refl w12.heap.size w12).drew.trans hb;clear hb I;go_wp2_with fail;refine⟨⟨⟨_,Wa.o⟩,rfl⟩,?_⟩;refine wm_ rfl ?_;go_wp2_with fail;refine cm_ (EK.o (-yl) _ (by omega) (bu_ fV Wa.o)) ?_;rintro e_ wb ⟨rfl,hb⟩;have Wb:=bt_ Wa hb;clear hb Wa;go_wp2_with fail;refine⟨⟨⟨_,Wb.o⟩,rfl⟩,?_⟩;refine wm_ rfl ?_;go_wp2_with fail;refine cm_ (en.o (-xl) (-yl) _ (by omega) (by omega) (by omega) (bu_ fV Wb.o)) ?_;rintro e_ wc ⟨rfl,hb⟩;have Wc:=bt_ Wb hb;clear hb Wb;go_wp2_with fail;refine⟨⟨⟨_,Wc.o⟩,rfl⟩,?_⟩;refine wa_ rfl ?_
        go_big_quiet_step (fail)
        refine wq_ ?_;refine wa_ rfl ?_
        go_big_quiet_step (fail)
        refine wq_ ?_;refine wa_ rfl ?_
        go_big_quiet_step (fail)
        refine wq_ ?_;refine wa_ rfl ?_
        go_big_quiet_step (fail)
        refine wq_ ?_;refine wm_ rfl ?_;go_wp2_with fail;refine⟨⟨⟨_,Wc.o⟩,rfl⟩,?_⟩;refine wm_ rfl ?_;go_wp2_with fail;refine⟨⟨⟨_,Wc.o⟩,rfl⟩,?_⟩;refine wm_ rfl ?_;go_wp2_with fail;simp only[RP.walkR];have hb:=Wc.o;have E9:=bt_ fV hb;replace T1:=hk_ T1 hb;replace T2:=hk_ T2 hb;replace HX:=hd_ (HX.o.below hb);replace HY:=hd_ (HY.o.below hb);clear hb Wc fV;generalize wc=w13 at *;have gS:fl=if (-xh)*(dy:Int)/((-yh)*(dx:Int))=(-xl)*(dy:Int)/((-yl)*(dx:Int)) then some ((-xh)*(dy:Int)/((-yh)*(dx:Int))) else none:=by
         rw[Hf.o];unfold flS;rw[if_pos (show yh<=0 by omega)];unfold flE LN.quoL LN.quoH;rw[if_neg (show ¬ (-yh)<=0 by omega),if_pos (show (-xh)<0 by omega),if_pos (show (-xl)<0 by omega)]
        have gH:=Zbi ((-xh)*(dy:Int)/((-yh)*(dx:Int))) ((-xl)*(dy:Int)/((-yl)*(dx:Int)));clear Hf;generalize (-xh)*(dy:Int)/((-yh)*(dx:Int))=q1 at *;generalize (-xl)*(dy:Int)/((-yl)*(dx:Int))=q2 at *
        by_cases hqq:q1=q2
        ·rw[if_pos hqq] at gS;rw[decide_eq_true hqq] at gH;have fz:=hd_ (gK.o _ gS);clear gS hqq gK gN;go_wp2_with fail;go_ret;exact⟨⟨q1,rfl,fz.o⟩,E9.o⟩
        ·rw[if_neg hqq] at gS;rw[decide_eq_false hqq] at gH;obtain⟨hn2,gM⟩:=gN.o gS;have Fq:=hd_ gM;clear gS hqq gK gN gM;go_wp2_with fail
         go_roundw
         case rel=>exact⟨n*2,Fq,hn2,rfl,E9,T1,T2,HX,HY⟩
         case measure=>simp[intOf];omega
       ·have GB:¬ (-xl).sign<0:=by have:=Kv (-xl);omega
        generalize (-xl).sign=sg at *;obtain⟨k0,k1,k2,-⟩:=Kd T1.o;obtain⟨m0,m1,m2,-⟩:=Kd T2.o;have s2:=BW.cell k2;have r2:=BW.cell m2;have gj:Nonempty (BW w11):=⟨⟨w11,Below.refl _ _⟩⟩;have I:Hid (Bw_ w11 w11.drew):=(Below.refl _ _).drew;go_wp2_with fail;clear k0 k1 k2 m0 m1 m2;refine RP.wp_region_readers 15 [(1,0),(1,1),(1,2),(1,4),(1,5),(1,6),(0,3),(0,7),(0,8),(2,9),(2,10),(2,11),(2,12),(0,13),(0,14),(0,15)] (fun w'=>∃ p:BW w11,w'=p.w) (by kernel_rfl) (by kernel_rfl) ?_ ?_
        ·exact⟨⟨_,I.o⟩,rfl⟩
        iterate 6 (refine wr_ rfl ?_;go_big_quiet_step (fail);refine wq_ ?_)
        clear gj s2 r2;refine wm_ rfl ?_;go_wp2_with fail;refine cm_ (EJ.o (-xh) _ (by omega) (Fl.o.drew)) ?_;rintro e_ wa ⟨rfl,hb⟩;have Wa:Hid (Bw_ w11 wa):=(Below.refl w11.heap.size w11).drew.trans hb;clear hb I;go_wp2_with fail;refine⟨⟨⟨_,Wa.o⟩,rfl⟩,?_⟩;refine wm_ rfl ?_;go_wp2_with fail;refine cm_ (EK.o (-yh) _ (by omega) (bu_ Fl Wa.o)) ?_;rintro e_ wb ⟨rfl,hb⟩;have Wb:=bt_ Wa hb;clear hb Wa;go_wp2_with fail;refine⟨⟨⟨_,Wb.o⟩,rfl⟩,?_⟩;refine wm_ rfl ?_;go_wp2_with fail;refine cm_ (en.o (-xh) (-yh) _ (by omega) (by omega) (by omega) (bu_ Fl Wb.o)) ?_;rintro e_ wc ⟨rfl,hb⟩;have Wc:=bt_ Wb hb;clear hb Wb;go_wp2_with fail;refine⟨⟨⟨_,Wc.o⟩,rfl⟩,?_⟩;refine wa_ rfl ?_
        go_big_quiet_step (fail)
        refine wq_ ?_;refine wa_ rfl ?_
        go_big_quiet_step (fail)
        refine wq_ ?_;refine wa_ rfl ?_
        go_big_quiet_step (fail)
        refine wq_ ?_;refine wa_ rfl ?_
        go_big_quiet_step (fail)
        refine wq_ ?_;refine wm_ rfl ?_;go_wp2_with fail;refine⟨⟨⟨_,Wc.o⟩,rfl⟩,?_⟩;refine wm_ rfl ?_;go_wp2_with fail;refine⟨⟨⟨_,Wc.o⟩,rfl⟩,?_⟩;refine wm_ rfl ?_;go_wp2_with fail;simp only[RP.walkR];have hb:=Wc.o;have fV:=bt_ Fl hb;replace T1:=hk_ T1 hb;replace T2:=hk_ T2 hb;replace HX:=hd_ (HX.o.below hb);replace HY:=hd_ (HY.o.below hb);clear hb Wc Fl;generalize wc=w12 at *;go_wp2_with fail;obtain⟨k0,k1,k2,-⟩:=Kd T1.o;obtain⟨m0,m1,m2,-⟩:=Kd T2.o;have s2:=BW.cell k2;have r2:=BW.cell m2;have gj:Nonempty (BW w12):=⟨⟨w12,Below.refl _ _⟩⟩;have I:Hid (Bw_ w12 w12.drew):=(Below.refl _ _).drew;go_wp2_with fail;clear k0 k1 k2 m0 m1 m2;refine RP.wp_region_readers 15 [(1,0),(1,1),(1,2),(1,4),(1,5),(1,6),(0,3),(0,7),(0,8),(2,9),(2,10),(2,11),(2,12),(0,13),(0,14),(0,15)] (fun w'=>∃ p:BW w12,w'=p.w) (by kernel_rfl) (by kernel_rfl) ?_ ?_
        ·exact⟨⟨_,I.o⟩,rfl⟩
        iterate 6 (refine wr_ rfl ?_;go_big_quiet_step (fail);refine wq_ ?_)
        clear gj s2 r2;refine wm_ rfl ?_;go_wp2_with fail;refine cm_ (EJ.o (-xl) _ (by omega) (fV.o.drew)) ?_;rintro e_ wa ⟨rfl,hb⟩;have Wa:Hid (Bw_ w12 wa):=(Below.refl w12.heap.size w12).drew.trans hb;clear hb I;go_wp2_with fail;refine⟨⟨⟨_,Wa.o⟩,rfl⟩,?_⟩;refine wm_ rfl ?_;go_wp2_with fail;refine cm_ (EK.o (-yh) _ (by omega) (bu_ fV Wa.o)) ?_;rintro e_ wb ⟨rfl,hb⟩;have Wb:=bt_ Wa hb;clear hb Wa;go_wp2_with fail;refine⟨⟨⟨_,Wb.o⟩,rfl⟩,?_⟩;refine wm_ rfl ?_;go_wp2_with fail;refine cm_ (en.o (-xl) (-yh) _ (by omega) (by omega) (by omega) (bu_ fV Wb.o)) ?_;rintro e_ wc ⟨rfl,hb⟩;have Wc:=bt_ Wb hb;clear hb Wb;go_wp2_with fail;refine⟨⟨⟨_,Wc.o⟩,rfl⟩,?_⟩;refine wa_ rfl ?_
        go_big_quiet_step (fail)
        refine wq_ ?_;refine wa_ rfl ?_
        go_big_quiet_step (fail)
        refine wq_ ?_;refine wa_ rfl ?_
        go_big_quiet_step (fail)
        refine wq_ ?_;refine wa_ rfl ?_
        go_big_quiet_step (fail)
        refine wq_ ?_;refine wm_ rfl ?_;go_wp2_with fail;refine⟨⟨⟨_,Wc.o⟩,rfl⟩,?_⟩;refine wm_ rfl ?_;go_wp2_with fail;refine⟨⟨⟨_,Wc.o⟩,rfl⟩,?_⟩;refine wm_ rfl ?_;go_wp2_with fail;simp only[RP.walkR];have hb:=Wc.o;have E9:=bt_ fV hb;replace T1:=hk_ T1 hb;replace T2:=hk_ T2 hb;replace HX:=hd_ (HX.o.below hb);replace HY:=hd_ (HY.o.below hb);clear hb Wc fV;generalize wc=w13 at *;have gS:fl=if (-xh)*(dy:Int)/((-yh)*(dx:Int))=(-xl)*(dy:Int)/((-yh)*(dx:Int)) then some ((-xh)*(dy:Int)/((-yh)*(dx:Int))) else none:=by
         rw[Hf.o];unfold flS;rw[if_pos (show yh<=0 by omega)];unfold flE LN.quoL LN.quoH;rw[if_neg (show ¬ (-yh)<=0 by omega),if_pos (show (-xh)<0 by omega),if_neg (show ¬ (-xl)<0 by omega)]
        have gH:=Zbi ((-xh)*(dy:Int)/((-yh)*(dx:Int))) ((-xl)*(dy:Int)/((-yh)*(dx:Int)));clear Hf;generalize (-xh)*(dy:Int)/((-yh)*(dx:Int))=q1 at *;generalize (-xl)*(dy:Int)/((-yh)*(dx:Int))=q2 at *
        by_cases hqq:q1=q2
        ·rw[if_pos hqq] at gS;rw[decide_eq_true hqq] at gH;have fz:=hd_ (gK.o _ gS);clear gS hqq gK gN;go_wp2_with fail;go_ret;exact⟨⟨q1,rfl,fz.o⟩,E9.o⟩
        ·rw[if_neg hqq] at gS;rw[decide_eq_false hqq] at gH;obtain⟨hn2,gM⟩:=gN.o gS;have Fq:=hd_ gM;clear gS hqq gK gN gM;go_wp2_with fail
         go_roundw
         case rel=>exact⟨n*2,Fq,hn2,rfl,E9,T1,T2,HX,HY⟩
         case measure=>simp[intOf];omega
      ·have GB:¬ (-xh).sign<0:=by have:=Kv (-xh);omega
       generalize (-xh).sign=sg at *;go_wp2_with fail;clear GB;refine cm_ (HS.o (-xl) _) ?_;rintro e_ w11 ⟨rfl,hb⟩;have Fl:=bt_ Cn hb;replace T1:=hk_ T1 hb;replace T2:=hk_ T2 hb;replace HX:=hd_ (HX.o.below hb);replace HY:=hd_ (HY.o.below hb);clear hb Cn
       by_cases fh:(-xl)<0
       ·have GB:(-xl).sign<0:=by have:=Kv (-xl);omega
        generalize (-xl).sign=sg at *;obtain⟨k0,k1,k2,-⟩:=Kd T1.o;obtain⟨m0,m1,m2,-⟩:=Kd T2.o;have s2:=BW.cell k2;have r2:=BW.cell m2;have gj:Nonempty (BW w11):=⟨⟨w11,Below.refl _ _⟩⟩;have I:Hid (Bw_ w11 w11.drew):=(Below.refl _ _).drew;go_wp2_with fail;clear k0 k1 k2 m0 m1 m2;refine RP.wp_region_readers 15 [(1,0),(1,1),(1,2),(1,4),(1,5),(1,6),(0,3),(0,7),(0,8),(2,9),(2,10),(2,11),(2,12),(0,13),(0,14),(0,15)] (fun w'=>∃ p:BW w11,w'=p.w) (by kernel_rfl) (by kernel_rfl) ?_ ?_
        ·exact⟨⟨_,I.o⟩,rfl⟩
        iterate 6 (refine wr_ rfl ?_;go_big_quiet_step (fail);refine wq_ ?_)
        clear gj s2 r2;refine wm_ rfl ?_;go_wp2_with fail;refine cm_ (EJ.o (-xh) _ (by omega) (Fl.o.drew)) ?_;rintro e_ wa ⟨rfl,hb⟩;have Wa:Hid (Bw_ w11 wa):=(Below.refl w11.heap.size w11).drew.trans hb;clear hb I;go_wp2_with fail;refine⟨⟨⟨_,Wa.o⟩,rfl⟩,?_⟩;refine wm_ rfl ?_;go_wp2_with fail;refine cm_ (EK.o (-yl) _ (by omega) (bu_ Fl Wa.o)) ?_;rintro e_ wb ⟨rfl,hb⟩;have Wb:=bt_ Wa hb;clear hb Wa;go_wp2_with fail;refine⟨⟨⟨_,Wb.o⟩,rfl⟩,?_⟩;refine wm_ rfl ?_;go_wp2_with fail;refine cm_ (en.o (-xh) (-yl) _ (by omega) (by omega) (by omega) (bu_ Fl Wb.o)) ?_;rintro e_ wc ⟨rfl,hb⟩;have Wc:=bt_ Wb hb;clear hb Wb;go_wp2_with fail;refine⟨⟨⟨_,Wc.o⟩,rfl⟩,?_⟩;refine wa_ rfl ?_
        go_big_quiet_step (fail)
        refine wq_ ?_;refine wa_ rfl ?_
        go_big_quiet_step (fail)
        refine wq_ ?_;refine wa_ rfl ?_
        go_big_quiet_step (fail)
        refine wq_ ?_;refine wa_ rfl ?_
        go_big_quiet_step (fail)
        refine wq_ ?_;refine wm_ rfl ?_;go_wp2_with fail;refine⟨⟨⟨_,Wc.o⟩,rfl⟩,?_⟩;refine wm_ rfl ?_;go_wp2_with fail;refine⟨⟨⟨_,Wc.o⟩,rfl⟩,?_⟩;refine wm_ rfl ?_;go_wp2_with fail;simp only[RP.walkR];have hb:=Wc.o;have fV:=bt_ Fl hb;replace T1:=hk_ T1 hb;replace T2:=hk_ T2 hb;replace HX:=hd_ (HX.o.below hb);replace HY:=hd_ (HY.o.below hb);clear hb Wc Fl;generalize wc=w12 at *;go_wp2_with fail;obtain⟨k0,k1,k2,-⟩:=Kd T1.o;obtain⟨m0,m1,m2,-⟩:=Kd T2.o;have s2:=BW.cell k2;have r2:=BW.cell m2;have gj:Nonempty (BW w12):=⟨⟨w12,Below.refl _ _⟩⟩;have I:Hid (Bw_ w12 w12.drew):=(Below.refl _ _).drew;go_wp2_with fail;clear k0 k1 k2 m0 m1 m2;refine RP.wp_region_readers 15 [(1,0),(1,1),(1,2),(1,4),(1,5),(1,6),(0,3),(0,7),(0,8),(2,9),(2,10),(2,11),(2,12),(0,13),(0,14),(0,15)] (fun w'=>∃ p:BW w12,w'=p.w) (by kernel_rfl) (by kernel_rfl) ?_ ?_
        ·exact⟨⟨_,I.o⟩,rfl⟩
        iterate 6 (refine wr_ rfl ?_;go_big_quiet_step (fail);refine wq_ ?_)
        clear gj s2 r2;refine wm_ rfl ?_;go_wp2_with fail;refine cm_ (EJ.o (-xl) _ (by omega) (fV.o.drew)) ?_;rintro e_ wa ⟨rfl,hb⟩;have Wa:Hid (Bw_ w12 wa):=(Below.refl w12.heap.size w12).drew.trans hb;clear hb I;go_wp2_with fail;refine⟨⟨⟨_,Wa.o⟩,rfl⟩,?_⟩;refine wm_ rfl ?_;go_wp2_with fail;refine cm_ (EK.o (-yl) _ (by omega) (bu_ fV Wa.o)) ?_;rintro e_ wb ⟨rfl,hb⟩;have Wb:=bt_ Wa hb;clear hb Wa;go_wp2_with fail;refine⟨⟨⟨_,Wb.o⟩,rfl⟩,?_⟩;refine wm_ rfl ?_;go_wp2_with fail;refine cm_ (en.o (-xl) (-yl) _ (by omega) (by omega) (by omega) (bu_ fV Wb.o)) ?_;rintro e_ wc ⟨rfl,hb⟩;have Wc:=bt_ Wb hb;clear hb Wb;go_wp2_with fail;refine⟨⟨⟨_,Wc.o⟩,rfl⟩,?_⟩;refine wa_ rfl ?_
        go_big_quiet_step (fail)
        refine wq_ ?_;refine wa_ rfl ?_
        go_big_quiet_step (fail)
        refine wq_ ?_;refine wa_ rfl ?_
        go_big_quiet_step (fail)
        refine wq_ ?_;refine wa_ rfl ?_
        go_big_quiet_step (fail)
        refine wq_ ?_;refine wm_ rfl ?_;go_wp2_with fail;refine⟨⟨⟨_,Wc.o⟩,rfl⟩,?_⟩;refine wm_ rfl ?_;go_wp2_with fail;refine⟨⟨⟨_,Wc.o⟩,rfl⟩,?_⟩;refine wm_ rfl ?_;go_wp2_with fail;simp only[RP.walkR];have hb:=Wc.o;have E9:=bt_ fV hb;replace T1:=hk_ T1 hb;replace T2:=hk_ T2 hb;replace HX:=hd_ (HX.o.below hb);replace HY:=hd_ (HY.o.below hb);clear hb Wc fV;generalize wc=w13 at *;have gS:fl=if (-xh)*(dy:Int)/((-yl)*(dx:Int))=(-xl)*(dy:Int)/((-yl)*(dx:Int)) then some ((-xh)*(dy:Int)/((-yl)*(dx:Int))) else none:=by
         rw[Hf.o];unfold flS;rw[if_pos (show yh<=0 by omega)];unfold flE LN.quoL LN.quoH;rw[if_neg (show ¬ (-yh)<=0 by omega),if_neg (show ¬ (-xh)<0 by omega),if_pos (show (-xl)<0 by omega)]
        have gH:=Zbi ((-xh)*(dy:Int)/((-yl)*(dx:Int))) ((-xl)*(dy:Int)/((-yl)*(dx:Int)));clear Hf;generalize (-xh)*(dy:Int)/((-yl)*(dx:Int))=q1 at *;generalize (-xl)*(dy:Int)/((-yl)*(dx:Int))=q2 at *
        by_cases hqq:q1=q2
        ·rw[if_pos hqq] at gS;rw[decide_eq_true hqq] at gH;have fz:=hd_ (gK.o _ gS);clear gS hqq gK gN;go_wp2_with fail;go_ret;exact⟨⟨q1,rfl,fz.o⟩,E9.o⟩
        ·rw[if_neg hqq] at gS;rw[decide_eq_false hqq] at gH;obtain⟨hn2,gM⟩:=gN.o gS;have Fq:=hd_ gM;clear gS hqq gK gN gM;go_wp2_with fail
         go_roundw
         case rel=>exact⟨n*2,Fq,hn2,rfl,E9,T1,T2,HX,HY⟩
         case measure=>simp[intOf];omega
       ·have GB:¬ (-xl).sign<0:=by have:=Kv (-xl);omega
        generalize (-xl).sign=sg at *;obtain⟨k0,k1,k2,-⟩:=Kd T1.o;obtain⟨m0,m1,m2,-⟩:=Kd T2.o;have s2:=BW.cell k2;have r2:=BW.cell m2;have gj:Nonempty (BW w11):=⟨⟨w11,Below.refl _ _⟩⟩;have I:Hid (Bw_ w11 w11.drew):=(Below.refl _ _).drew;go_wp2_with fail;clear k0 k1 k2 m0 m1 m2;refine RP.wp_region_readers 15 [(1,0),(1,1),(1,2),(1,4),(1,5),(1,6),(0,3),(0,7),(0,8),(2,9),(2,10),(2,11),(2,12),(0,13),(0,14),(0,15)] (fun w'=>∃ p:BW w11,w'=p.w) (by kernel_rfl) (by kernel_rfl) ?_ ?_
        ·exact⟨⟨_,I.o⟩,rfl⟩
        iterate 6 (refine wr_ rfl ?_;go_big_quiet_step (fail);refine wq_ ?_)
        clear gj s2 r2;refine wm_ rfl ?_;go_wp2_with fail;refine cm_ (EJ.o (-xh) _ (by omega) (Fl.o.drew)) ?_;rintro e_ wa ⟨rfl,hb⟩;have Wa:Hid (Bw_ w11 wa):=(Below.refl w11.heap.size w11).drew.trans hb;clear hb I;go_wp2_with fail;refine⟨⟨⟨_,Wa.o⟩,rfl⟩,?_⟩;refine wm_ rfl ?_;go_wp2_with fail;refine cm_ (EK.o (-yl) _ (by omega) (bu_ Fl Wa.o)) ?_;rintro e_ wb ⟨rfl,hb⟩;have Wb:=bt_ Wa hb;clear hb Wa;go_wp2_with fail;refine⟨⟨⟨_,Wb.o⟩,rfl⟩,?_⟩;refine wm_ rfl ?_;go_wp2_with fail;refine cm_ (en.o (-xh) (-yl) _ (by omega) (by omega) (by omega) (bu_ Fl Wb.o)) ?_;rintro e_ wc ⟨rfl,hb⟩;have Wc:=bt_ Wb hb;clear hb Wb;go_wp2_with fail;refine⟨⟨⟨_,Wc.o⟩,rfl⟩,?_⟩;refine wa_ rfl ?_
        go_big_quiet_step (fail)
        refine wq_ ?_;refine wa_ rfl ?_
        go_big_quiet_step (fail)
        refine wq_ ?_;refine wa_ rfl ?_
        go_big_quiet_step (fail)
        refine wq_ ?_;refine wa_ rfl ?_
        go_big_quiet_step (fail)
        refine wq_ ?_;refine wm_ rfl ?_;go_wp2_with fail;refine⟨⟨⟨_,Wc.o⟩,rfl⟩,?_⟩;refine wm_ rfl ?_;go_wp2_with fail;refine⟨⟨⟨_,Wc.o⟩,rfl⟩,?_⟩;refine wm_ rfl ?_;go_wp2_with fail;simp only[RP.walkR];have hb:=Wc.o;have fV:=bt_ Fl hb;replace T1:=hk_ T1 hb;replace T2:=hk_ T2 hb;replace HX:=hd_ (HX.o.below hb);replace HY:=hd_ (HY.o.below hb);clear hb Wc Fl;generalize wc=w12 at *;go_wp2_with fail;obtain⟨k0,k1,k2,-⟩:=Kd T1.o;obtain⟨m0,m1,m2,-⟩:=Kd T2.o;have s2:=BW.cell k2;have r2:=BW.cell m2;have gj:Nonempty (BW w12):=⟨⟨w12,Below.refl _ _⟩⟩;have I:Hid (Bw_ w12 w12.drew):=(Below.refl _ _).drew;go_wp2_with fail;clear k0 k1 k2 m0 m1 m2;refine RP.wp_region_readers 15 [(1,0),(1,1),(1,2),(1,4),(1,5),(1,6),(0,3),(0,7),(0,8),(2,9),(2,10),(2,11),(2,12),(0,13),(0,14),(0,15)] (fun w'=>∃ p:BW w12,w'=p.w) (by kernel_rfl) (by kernel_rfl) ?_ ?_
        ·exact⟨⟨_,I.o⟩,rfl⟩
        iterate 6 (refine wr_ rfl ?_;go_big_quiet_step (fail);refine wq_ ?_)
        clear gj s2 r2;refine wm_ rfl ?_;go_wp2_with fail;refine cm_ (EJ.o (-xl) _ (by omega) (fV.o.drew)) ?_;rintro e_ wa ⟨rfl,hb⟩;have Wa:Hid (Bw_ w12 wa):=(Below.refl w12.heap.size w12).drew.trans hb;clear hb I;go_wp2_with fail;refine⟨⟨⟨_,Wa.o⟩,rfl⟩,?_⟩;refine wm_ rfl ?_;go_wp2_with fail;refine cm_ (EK.o (-yh) _ (by omega) (bu_ fV Wa.o)) ?_;rintro e_ wb ⟨rfl,hb⟩;have Wb:=bt_ Wa hb;clear hb Wa;go_wp2_with fail;refine⟨⟨⟨_,Wb.o⟩,rfl⟩,?_⟩;refine wm_ rfl ?_;go_wp2_with fail;refine cm_ (en.o (-xl) (-yh) _ (by omega) (by omega) (by omega) (bu_ fV Wb.o)) ?_;rintro e_ wc ⟨rfl,hb⟩;have Wc:=bt_ Wb hb;clear hb Wb;go_wp2_with fail;refine⟨⟨⟨_,Wc.o⟩,rfl⟩,?_⟩;refine wa_ rfl ?_
        go_big_quiet_step (fail)
        refine wq_ ?_;refine wa_ rfl ?_
        go_big_quiet_step (fail)
        refine wq_ ?_;refine wa_ rfl ?_
        go_big_quiet_step (fail)
        refine wq_ ?_;refine wa_ rfl ?_
        go_big_quiet_step (fail)
        refine wq_ ?_;refine wm_ rfl ?_;go_wp2_with fail;refine⟨⟨⟨_,Wc.o⟩,rfl⟩,?_⟩;refine wm_ rfl ?_;go_wp2_with fail;refine⟨⟨⟨_,Wc.o⟩,rfl⟩,?_⟩;refine wm_ rfl ?_;go_wp2_with fail;simp only[RP.walkR];have hb:=Wc.o;have E9:=bt_ fV hb;replace T1:=hk_ T1 hb;replace T2:=hk_ T2 hb;replace HX:=hd_ (HX.o.below hb);replace HY:=hd_ (HY.o.below hb);clear hb Wc fV;generalize wc=w13 at *;have gS:fl=if (-xh)*(dy:Int)/((-yl)*(dx:Int))=(-xl)*(dy:Int)/((-yh)*(dx:Int)) then some ((-xh)*(dy:Int)/((-yl)*(dx:Int))) else none:=by
         rw[Hf.o];unfold flS;rw[if_pos (show yh<=0 by omega)];unfold flE LN.quoL LN.quoH;rw[if_neg (show ¬ (-yh)<=0 by omega),if_neg (show ¬ (-xh)<0 by omega),if_neg (show ¬ (-xl)<0 by omega)]
        have gH:=Zbi ((-xh)*(dy:Int)/((-yl)*(dx:Int))) ((-xl)*(dy:Int)/((-yh)*(dx:Int)));clear Hf;generalize (-xh)*(dy:Int)/((-yl)*(dx:Int))=q1 at *;generalize (-xl)*(dy:Int)/((-yh)*(dx:Int))=q2 at *
        by_cases hqq:q1=q2
        ·rw[if_pos hqq] at gS;rw[decide_eq_true hqq] at gH;have fz:=hd_ (gK.o _ gS);clear gS hqq gK gN;go_wp2_with fail;go_ret;exact⟨⟨q1,rfl,fz.o⟩,E9.o⟩
        ·rw[if_neg hqq] at gS;rw[decide_eq_false hqq] at gH;obtain⟨hn2,gM⟩:=gN.o gS;have Fq:=hd_ gM;clear gS hqq gK gN gM;go_wp2_with fail
         go_roundw
         case rel=>exact⟨n*2,Fq,hn2,rfl,E9,T1,T2,HX,HY⟩
         case measure=>simp[intOf];omega
    ·have jm:¬ yh.sign<=0:=by have:=Kv yh;omega
     generalize yh.sign=sg0 at *;go_wp2_with fail;refine cm_ (HS.o yl _) ?_;rintro e_ w5 ⟨rfl,hb⟩;have B5:=bt_ B4 hb;replace T1:=hk_ T1 hb;replace T2:=hk_ T2 hb;replace HX:=hd_ (HX.o.below hb);replace HY:=hd_ (HY.o.below hb);clear hb B4
     by_cases hyl2:yl<=0
     ·have GB:yl.sign<=0:=by have:=Kv yl;omega
      have gS:fl=none:=by
       rw[Hf.o];unfold flS;rw[if_neg (by omega)];unfold flE;rw[if_pos (by omega)]
      obtain⟨hn2,gM⟩:=gN.o gS;have Fq:=hd_ gM;clear gS gK gN gM Hf;generalize yl.sign=sg at *;go_wp2_with fail
      go_roundw
      case rel=>exact⟨n*2,Fq,hn2,rfl,B5,T1,T2,HX,HY⟩
      case measure=>simp[intOf];omega
     ·have GB:0<yl.sign:=by have:=Kv yl;omega
      generalize yl.sign=sg at *;go_wp2_with fail;clear GB;refine cm_ (HS.o xl _) ?_;rintro e_ w6 ⟨rfl,hb⟩;have B6:=bt_ B5 hb;replace T1:=hk_ T1 hb;replace T2:=hk_ T2 hb;replace HX:=hd_ (HX.o.below hb);replace HY:=hd_ (HY.o.below hb);clear hb B5
      by_cases E':xl<0
      ·have GB:xl.sign<0:=by have:=Kv xl;omega
       generalize xl.sign=sg at *;go_wp2_with fail;clear GB;refine cm_ (HS.o xh _) ?_;rintro e_ w7 ⟨rfl,hb⟩;have B7:=bt_ B6 hb;replace T1:=hk_ T1 hb;replace T2:=hk_ T2 hb;replace HX:=hd_ (HX.o.below hb);replace HY:=hd_ (HY.o.below hb);clear hb B6
       by_cases fh:xh<0
       ·have GB:xh.sign<0:=by have:=Kv xh;omega
        generalize xh.sign=sg at *;obtain⟨k0,k1,k2,-⟩:=Kd T1.o;obtain⟨m0,m1,m2,-⟩:=Kd T2.o;have s2:=BW.cell k2;have r2:=BW.cell m2;have gj:Nonempty (BW w7):=⟨⟨w7,Below.refl _ _⟩⟩;have I:Hid (Bw_ w7 w7.drew):=(Below.refl _ _).drew;go_wp2_with fail;clear k0 k1 k2 m0 m1 m2;refine RP.wp_region_readers 15 [(1,0),(1,1),(1,2),(1,4),(1,5),(1,6),(0,3),(0,7),(0,8),(2,9),(2,10),(2,11),(2,12),(0,13),(0,14),(0,15)] (fun w'=>∃ p:BW w7,w'=p.w) (by kernel_rfl) (by kernel_rfl) ?_ ?_
        ·exact⟨⟨_,I.o⟩,rfl⟩
        iterate 6 (refine wr_ rfl ?_;go_big_quiet_step (fail);refine wq_ ?_)
        clear gj s2 r2;refine wm_ rfl ?_;go_wp2_with fail;refine cm_ (EJ.o xl _ (by omega) (B7.o.drew)) ?_;rintro e_ wa ⟨rfl,hb⟩;have Wa:Hid (Bw_ w7 wa):=(Below.refl w7.heap.size w7).drew.trans hb;clear hb I;go_wp2_with fail;refine⟨⟨⟨_,Wa.o⟩,rfl⟩,?_⟩;refine wm_ rfl ?_;go_wp2_with fail;refine cm_ (EK.o yl _ (by omega) (bu_ B7 Wa.o)) ?_;rintro e_ wb ⟨rfl,hb⟩;have Wb:=bt_ Wa hb;clear hb Wa;go_wp2_with fail;refine⟨⟨⟨_,Wb.o⟩,rfl⟩,?_⟩;refine wm_ rfl ?_;go_wp2_with fail;refine cm_ (en.o xl yl _ (by omega) (by omega) (by omega) (bu_ B7 Wb.o)) ?_;rintro e_ wc ⟨rfl,hb⟩;have Wc:=bt_ Wb hb;clear hb Wb;go_wp2_with fail;refine⟨⟨⟨_,Wc.o⟩,rfl⟩,?_⟩;refine wa_ rfl ?_
        go_big_quiet_step (fail)
        refine wq_ ?_;refine wa_ rfl ?_
        go_big_quiet_step (fail)
        refine wq_ ?_;refine wa_ rfl ?_
        go_big_quiet_step (fail)
        refine wq_ ?_;refine wa_ rfl ?_
        go_big_quiet_step (fail)
        refine wq_ ?_;refine wm_ rfl ?_;go_wp2_with fail;refine⟨⟨⟨_,Wc.o⟩,rfl⟩,?_⟩;refine wm_ rfl ?_;go_wp2_with fail;refine⟨⟨⟨_,Wc.o⟩,rfl⟩,?_⟩;refine wm_ rfl ?_;go_wp2_with fail;simp only[RP.walkR];have hb:=Wc.o;have B8:=bt_ B7 hb;replace T1:=hk_ T1 hb;replace T2:=hk_ T2 hb;replace HX:=hd_ (HX.o.below hb);replace HY:=hd_ (HY.o.below hb);clear hb Wc B7;generalize wc=w8 at *;go_wp2_with fail;obtain⟨k0,k1,k2,-⟩:=Kd T1.o;obtain⟨m0,m1,m2,-⟩:=Kd T2.o;have s2:=BW.cell k2;have r2:=BW.cell m2;have gj:Nonempty (BW w8):=⟨⟨w8,Below.refl _ _⟩⟩;have I:Hid (Bw_ w8 w8.drew):=(Below.refl _ _).drew;go_wp2_with fail;clear k0 k1 k2 m0 m1 m2;refine RP.wp_region_readers 15 [(1,0),(1,1),(1,2),(1,4),(1,5),(1,6),(0,3),(0,7),(0,8),(2,9),(2,10),(2,11),(2,12),(0,13),(0,14),(0,15)] (fun w'=>∃ p:BW w8,w'=p.w) (by kernel_rfl) (by kernel_rfl) ?_ ?_
        ·exact⟨⟨_,I.o⟩,rfl⟩
        iterate 6 (refine wr_ rfl ?_;go_big_quiet_step (fail);refine wq_ ?_)
        clear gj s2 r2;refine wm_ rfl ?_;go_wp2_with fail;refine cm_ (EJ.o xh _ (by omega) (B8.o.drew)) ?_;rintro e_ wa ⟨rfl,hb⟩;have Wa:Hid (Bw_ w8 wa):=(Below.refl w8.heap.size w8).drew.trans hb;clear hb I;go_wp2_with fail;refine⟨⟨⟨_,Wa.o⟩,rfl⟩,?_⟩;refine wm_ rfl ?_;go_wp2_with fail;refine cm_ (EK.o yh _ (by omega) (bu_ B8 Wa.o)) ?_;rintro e_ wb ⟨rfl,hb⟩;have Wb:=bt_ Wa hb;clear hb Wa;go_wp2_with fail;refine⟨⟨⟨_,Wb.o⟩,rfl⟩,?_⟩;refine wm_ rfl ?_;go_wp2_with fail;refine cm_ (en.o xh yh _ (by omega) (by omega) (by omega) (bu_ B8 Wb.o)) ?_;rintro e_ wc ⟨rfl,hb⟩;have Wc:=bt_ Wb hb;clear hb Wb;go_wp2_with fail;refine⟨⟨⟨_,Wc.o⟩,rfl⟩,?_⟩;refine wa_ rfl ?_
        go_big_quiet_step (fail)
        refine wq_ ?_;refine wa_ rfl ?_
        go_big_quiet_step (fail)
        refine wq_ ?_;refine wa_ rfl ?_
        go_big_quiet_step (fail)
        refine wq_ ?_;refine wa_ rfl ?_
        go_big_quiet_step (fail)
        refine wq_ ?_;refine wm_ rfl ?_;go_wp2_with fail;refine⟨⟨⟨_,Wc.o⟩,rfl⟩,?_⟩;refine wm_ rfl ?_;go_wp2_with fail;refine⟨⟨⟨_,Wc.o⟩,rfl⟩,?_⟩;refine wm_ rfl ?_;go_wp2_with fail;simp only[RP.walkR];have hb:=Wc.o;have B9:=bt_ B8 hb;replace T1:=hk_ T1 hb;replace T2:=hk_ T2 hb;replace HX:=hd_ (HX.o.below hb);replace HY:=hd_ (HY.o.below hb);clear hb Wc B8;generalize wc=w9 at *;have gS:fl=if xl*(dy:Int)/(yl*(dx:Int))=xh*(dy:Int)/(yh*(dx:Int)) then some (xl*(dy:Int)/(yl*(dx:Int))) else none:=by
         rw[Hf.o];unfold flS;rw[if_neg (show ¬ yh<=0 by omega)];unfold flE LN.quoL LN.quoH;rw[if_neg (show ¬ yl<=0 by omega),if_pos (show xl<0 by omega),if_pos (show xh<0 by omega)]
        have gH:=Zbi (xl*(dy:Int)/(yl*(dx:Int))) (xh*(dy:Int)/(yh*(dx:Int)));clear Hf;generalize xl*(dy:Int)/(yl*(dx:Int))=q1 at *;generalize xh*(dy:Int)/(yh*(dx:Int))=q2 at *
        by_cases hqq:q1=q2
        ·rw[if_pos hqq] at gS;rw[decide_eq_true hqq] at gH;have fz:=hd_ (gK.o _ gS);clear gS hqq gK gN;go_wp2_with fail;go_ret;exact⟨⟨q1,rfl,fz.o⟩,B9.o⟩
        ·rw[if_neg hqq] at gS;rw[decide_eq_false hqq] at gH;obtain⟨hn2,gM⟩:=gN.o gS;have Fq:=hd_ gM;clear gS hqq gK gN gM;go_wp2_with fail
         go_roundw
         case rel=>exact⟨n*2,Fq,hn2,rfl,B9,T1,T2,HX,HY⟩
         case measure=>simp[intOf];omega
       ·have GB:¬ xh.sign<0:=by have:=Kv xh;omega
        generalize xh.sign=sg at *;obtain⟨k0,k1,k2,-⟩:=Kd T1.o;obtain⟨m0,m1,m2,-⟩:=Kd T2.o;have s2:=BW.cell k2;have r2:=BW.cell m2;have gj:Nonempty (BW w7):=⟨⟨w7,Below.refl _ _⟩⟩;have I:Hid (Bw_ w7 w7.drew):=(Below.refl _ _).drew;go_wp2_with fail;clear k0 k1 k2 m0 m1 m2;refine RP.wp_region_readers 15 [(1,0),(1,1),(1,2),(1,4),(1,5),(1,6),(0,3),(0,7),(0,8),(2,9),(2,10),(2,11),(2,12),(0,13),(0,14),(0,15)] (fun w'=>∃ p:BW w7,w'=p.w) (by kernel_rfl) (by kernel_rfl) ?_ ?_
        ·exact⟨⟨_,I.o⟩,rfl⟩
        iterate 6 (refine wr_ rfl ?_;go_big_quiet_step (fail);refine wq_ ?_)
        clear gj s2 r2;refine wm_ rfl ?_;go_wp2_with fail;refine cm_ (EJ.o xl _ (by omega) (B7.o.drew)) ?_;rintro e_ wa ⟨rfl,hb⟩;have Wa:Hid (Bw_ w7 wa):=(Below.refl w7.heap.size w7).drew.trans hb;clear hb I;go_wp2_with fail;refine⟨⟨⟨_,Wa.o⟩,rfl⟩,?_⟩;refine wm_ rfl ?_;go_wp2_with fail;refine cm_ (EK.o yl _ (by omega) (bu_ B7 Wa.o)) ?_;rintro e_ wb ⟨rfl,hb⟩;have Wb:=bt_ Wa hb;clear hb Wa;go_wp2_with fail;refine⟨⟨⟨_,Wb.o⟩,rfl⟩,?_⟩;refine wm_ rfl ?_;go_wp2_with fail;refine cm_ (en.o xl yl _ (by omega) (by omega) (by omega) (bu_ B7 Wb.o)) ?_;rintro e_ wc ⟨rfl,hb⟩;have Wc:=bt_ Wb hb;clear hb Wb;go_wp2_with fail;refine⟨⟨⟨_,Wc.o⟩,rfl⟩,?_⟩;refine wa_ rfl ?_
        go_big_quiet_step (fail)
        refine wq_ ?_;refine wa_ rfl ?_
        go_big_quiet_step (fail)
        refine wq_ ?_;refine wa_ rfl ?_
        go_big_quiet_step (fail)
        refine wq_ ?_;refine wa_ rfl ?_
        go_big_quiet_step (fail)
        refine wq_ ?_;refine wm_ rfl ?_;go_wp2_with fail;refine⟨⟨⟨_,Wc.o⟩,rfl⟩,?_⟩;refine wm_ rfl ?_;go_wp2_with fail;refine⟨⟨⟨_,Wc.o⟩,rfl⟩,?_⟩;refine wm_ rfl ?_;go_wp2_with fail;simp only[RP.walkR];have hb:=Wc.o;have B8:=bt_ B7 hb;replace T1:=hk_ T1 hb;replace T2:=hk_ T2 hb;replace HX:=hd_ (HX.o.below hb);replace HY:=hd_ (HY.o.below hb);clear hb Wc B7;generalize wc=w8 at *;go_wp2_with fail;obtain⟨k0,k1,k2,-⟩:=Kd T1.o;obtain⟨m0,m1,m2,-⟩:=Kd T2.o;have s2:=BW.cell k2;have r2:=BW.cell m2;have gj:Nonempty (BW w8):=⟨⟨w8,Below.refl _ _⟩⟩;have I:Hid (Bw_ w8 w8.drew):=(Below.refl _ _).drew;go_wp2_with fail;clear k0 k1 k2 m0 m1 m2;refine RP.wp_region_readers 15 [(1,0),(1,1),(1,2),(1,4),(1,5),(1,6),(0,3),(0,7),(0,8),(2,9),(2,10),(2,11),(2,12),(0,13),(0,14),(0,15)] (fun w'=>∃ p:BW w8,w'=p.w) (by kernel_rfl) (by kernel_rfl) ?_ ?_
        ·exact⟨⟨_,I.o⟩,rfl⟩
        iterate 6 (refine wr_ rfl ?_;go_big_quiet_step (fail);refine wq_ ?_)
        clear gj s2 r2;refine wm_ rfl ?_;go_wp2_with fail;refine cm_ (EJ.o xh _ (by omega) (B8.o.drew)) ?_;rintro e_ wa ⟨rfl,hb⟩;have Wa:Hid (Bw_ w8 wa):=(Below.refl w8.heap.size w8).drew.trans hb;clear hb I;go_wp2_with fail;refine⟨⟨⟨_,Wa.o⟩,rfl⟩,?_⟩;refine wm_ rfl ?_;go_wp2_with fail;refine cm_ (EK.o yl _ (by omega) (bu_ B8 Wa.o)) ?_;rintro e_ wb ⟨rfl,hb⟩;have Wb:=bt_ Wa hb;clear hb Wa;go_wp2_with fail;refine⟨⟨⟨_,Wb.o⟩,rfl⟩,?_⟩;refine wm_ rfl ?_;go_wp2_with fail;refine cm_ (en.o xh yl _ (by omega) (by omega) (by omega) (bu_ B8 Wb.o)) ?_;rintro e_ wc ⟨rfl,hb⟩;have Wc:=bt_ Wb hb;clear hb Wb;go_wp2_with fail;refine⟨⟨⟨_,Wc.o⟩,rfl⟩,?_⟩;refine wa_ rfl ?_
        go_big_quiet_step (fail)
        refine wq_ ?_;refine wa_ rfl ?_
        go_big_quiet_step (fail)
        refine wq_ ?_;refine wa_ rfl ?_
        go_big_quiet_step (fail)
        refine wq_ ?_;refine wa_ rfl ?_
        go_big_quiet_step (fail)
        refine wq_ ?_;refine wm_ rfl ?_;go_wp2_with fail;refine⟨⟨⟨_,Wc.o⟩,rfl⟩,?_⟩;refine wm_ rfl ?_;go_wp2_with fail;refine⟨⟨⟨_,Wc.o⟩,rfl⟩,?_⟩;refine wm_ rfl ?_;go_wp2_with fail;simp only[RP.walkR];have hb:=Wc.o;have B9:=bt_ B8 hb;replace T1:=hk_ T1 hb;replace T2:=hk_ T2 hb;replace HX:=hd_ (HX.o.below hb);replace HY:=hd_ (HY.o.below hb);clear hb Wc B8;generalize wc=w9 at *;have gS:fl=if xl*(dy:Int)/(yl*(dx:Int))=xh*(dy:Int)/(yl*(dx:Int)) then some (xl*(dy:Int)/(yl*(dx:Int))) else none:=by
         rw[Hf.o];unfold flS;rw[if_neg (show ¬ yh<=0 by omega)];unfold flE LN.quoL LN.quoH;rw[if_neg (show ¬ yl<=0 by omega),if_pos (show xl<0 by omega),if_neg (show ¬ xh<0 by omega)]
        have gH:=Zbi (xl*(dy:Int)/(yl*(dx:Int))) (xh*(dy:Int)/(yl*(dx:Int)));clear Hf;generalize xl*(dy:Int)/(yl*(dx:Int))=q1 at *;generalize xh*(dy:Int)/(yl*(dx:Int))=q2 at *
        by_cases hqq:q1=q2
        ·rw[if_pos hqq] at gS;rw[decide_eq_true hqq] at gH;have fz:=hd_ (gK.o _ gS);clear gS hqq gK gN;go_wp2_with fail;go_ret;exact⟨⟨q1,rfl,fz.o⟩,B9.o⟩
        ·rw[if_neg hqq] at gS;rw[decide_eq_false hqq] at gH;obtain⟨hn2,gM⟩:=gN.o gS;have Fq:=hd_ gM;clear gS hqq gK gN gM;go_wp2_with fail
         go_roundw
         case rel=>exact⟨n*2,Fq,hn2,rfl,B9,T1,T2,HX,HY⟩
         case measure=>simp[intOf];omega
      ·have GB:¬ xl.sign<0:=by have:=Kv xl;omega
       generalize xl.sign=sg at *;go_wp2_with fail;clear GB;refine cm_ (HS.o xh _) ?_;rintro e_ w7 ⟨rfl,hb⟩;have B7:=bt_ B6 hb;replace T1:=hk_ T1 hb;replace T2:=hk_ T2 hb;replace HX:=hd_ (HX.o.below hb);replace HY:=hd_ (HY.o.below hb);clear hb B6
       by_cases fh:xh<0
       ·have GB:xh.sign<0:=by have:=Kv xh;omega
        generalize xh.sign=sg at *;obtain⟨k0,k1,k2,-⟩:=Kd T1.o;obtain⟨m0,m1,m2,-⟩:=Kd T2.o;have s2:=BW.cell k2;have r2:=BW.cell m2;have gj:Nonempty (BW w7):=⟨⟨w7,Below.refl _ _⟩⟩;have I:Hid (Bw_ w7 w7.drew):=(Below.refl _ _).drew;go_wp2_with fail;clear k0 k1 k2 m0 m1 m2;refine RP.wp_region_readers 15 [(1,0),(1,1),(1,2),(1,4),(1,5),(1,6),(0,3),(0,7),(0,8),(2,9),(2,10),(2,11),(2,12),(0,13),(0,14),(0,15)] (fun w'=>∃ p:BW w7,w'=p.w) (by kernel_rfl) (by kernel_rfl) ?_ ?_
        ·exact⟨⟨_,I.o⟩,rfl⟩
        iterate 6 (refine wr_ rfl ?_;go_big_quiet_step (fail);refine wq_ ?_)
        clear gj s2 r2;refine wm_ rfl ?_;go_wp2_with fail;refine cm_ (EJ.o xl _ (by omega) (B7.o.drew)) ?_;rintro e_ wa ⟨rfl,hb⟩;have Wa:Hid (Bw_ w7 wa):=(Below.refl w7.heap.size w7).drew.trans hb;clear hb I;go_wp2_with fail;refine⟨⟨⟨_,Wa.o⟩,rfl⟩,?_⟩;refine wm_ rfl ?_;go_wp2_with fail;refine cm_ (EK.o yh _ (by omega) (bu_ B7 Wa.o)) ?_;rintro e_ wb ⟨rfl,hb⟩;have Wb:=bt_ Wa hb;clear hb Wa;go_wp2_with fail;refine⟨⟨⟨_,Wb.o⟩,rfl⟩,?_⟩;refine wm_ rfl ?_;go_wp2_with fail;refine cm_ (en.o xl yh _ (by omega) (by omega) (by omega) (bu_ B7 Wb.o)) ?_;rintro e_ wc ⟨rfl,hb⟩;have Wc:=bt_ Wb hb;clear hb Wb;go_wp2_with fail;refine⟨⟨⟨_,Wc.o⟩,rfl⟩,?_⟩;refine wa_ rfl ?_
        go_big_quiet_step (fail)
        refine wq_ ?_;refine wa_ rfl ?_
        go_big_quiet_step (fail)
        refine wq_ ?_;refine wa_ rfl ?_
        go_big_quiet_step (fail)
        refine wq_ ?_;refine wa_ rfl ?_
        go_big_quiet_step (fail)
        refine wq_ ?_;refine wm_ rfl ?_;go_wp2_with fail;refine⟨⟨⟨_,Wc.o⟩,rfl⟩,?_⟩;refine wm_ rfl ?_;go_wp2_with fail;refine⟨⟨⟨_,Wc.o⟩,rfl⟩,?_⟩;refine wm_ rfl ?_;go_wp2_with fail;simp only[RP.walkR];have hb:=Wc.o;have B8:=bt_ B7 hb;replace T1:=hk_ T1 hb;replace T2:=hk_ T2 hb;replace HX:=hd_ (HX.o.below hb);replace HY:=hd_ (HY.o.below hb);clear hb Wc B7;generalize wc=w8 at *;go_wp2_with fail;obtain⟨k0,k1,k2,-⟩:=Kd T1.o;obtain⟨m0,m1,m2,-⟩:=Kd T2.o;have s2:=BW.cell k2;have r2:=BW.cell m2;have gj:Nonempty (BW w8):=⟨⟨w8,Below.refl _ _⟩⟩;have I:Hid (Bw_ w8 w8.drew):=(Below.refl _ _).drew;go_wp2_with fail;clear k0 k1 k2 m0 m1 m2;refine RP.wp_region_readers 15 [(1,0),(1,1),(1,2),(1,4),(1,5),(1,6),(0,3),(0,7),(0,8),(2,9),(2,10),(2,11),(2,12),(0,13),(0,14),(0,15)] (fun w'=>∃ p:BW w8,w'=p.w) (by kernel_rfl) (by kernel_rfl) ?_ ?_
        ·exact⟨⟨_,I.o⟩,rfl⟩
        iterate 6 (refine wr_ rfl ?_;go_big_quiet_step (fail);refine wq_ ?_)
        clear gj s2 r2;refine wm_ rfl ?_;go_wp2_with fail;refine cm_ (EJ.o xh _ (by omega) (B8.o.drew)) ?_;rintro e_ wa ⟨rfl,hb⟩;have Wa:Hid (Bw_ w8 wa):=(Below.refl w8.heap.size w8).drew.trans hb;clear hb I;go_wp2_with fail;refine⟨⟨⟨_,Wa.o⟩,rfl⟩,?_⟩;refine wm_ rfl ?_;go_wp2_with fail;refine cm_ (EK.o yh _ (by omega) (bu_ B8 Wa.o)) ?_;rintro e_ wb ⟨rfl,hb⟩;have Wb:=bt_ Wa hb;clear hb Wa;go_wp2_with fail;refine⟨⟨⟨_,Wb.o⟩,rfl⟩,?_⟩;refine wm_ rfl ?_;go_wp2_with fail;refine cm_ (en.o xh yh _ (by omega) (by omega) (by omega) (bu_ B8 Wb.o)) ?_;rintro e_ wc ⟨rfl,hb⟩;have Wc:=bt_ Wb hb;clear hb Wb;go_wp2_with fail;refine⟨⟨⟨_,Wc.o⟩,rfl⟩,?_⟩;refine wa_ rfl ?_
        go_big_quiet_step (fail)
        refine wq_ ?_;refine wa_ rfl ?_
        go_big_quiet_step (fail)
        refine wq_ ?_;refine wa_ rfl ?_
        go_big_quiet_step (fail)
        refine wq_ ?_;refine wa_ rfl ?_
        go_big_quiet_step (fail)
        refine wq_ ?_;refine wm_ rfl ?_;go_wp2_with fail;refine⟨⟨⟨_,Wc.o⟩,rfl⟩,?_⟩;refine wm_ rfl ?_;go_wp2_with fail;refine⟨⟨⟨_,Wc.o⟩,rfl⟩,?_⟩;refine wm_ rfl ?_;go_wp2_with fail;simp only[RP.walkR];have hb:=Wc.o;have B9:=bt_ B8 hb;replace T1:=hk_ T1 hb;replace T2:=hk_ T2 hb;replace HX:=hd_ (HX.o.below hb);replace HY:=hd_ (HY.o.below hb);clear hb Wc B8;generalize wc=w9 at *;have gS:fl=if xl*(dy:Int)/(yh*(dx:Int))=xh*(dy:Int)/(yh*(dx:Int)) then some (xl*(dy:Int)/(yh*(dx:Int))) else none:=by
         rw[Hf.o];unfold flS;rw[if_neg (show ¬ yh<=0 by omega)];unfold flE LN.quoL LN.quoH;rw[if_neg (show ¬ yl<=0 by omega),if_neg (show ¬ xl<0 by omega),if_pos (show xh<0 by omega)]
        have gH:=Zbi (xl*(dy:Int)/(yh*(dx:Int))) (xh*(dy:Int)/(yh*(dx:Int)));clear Hf;generalize xl*(dy:Int)/(yh*(dx:Int))=q1 at *;generalize xh*(dy:Int)/(yh*(dx:Int))=q2 at *
        by_cases hqq:q1=q2
        ·rw[if_pos hqq] at gS;rw[decide_eq_true hqq] at gH;have fz:=hd_ (gK.o _ gS);clear gS hqq gK gN;go_wp2_with fail;go_ret;exact⟨⟨q1,rfl,fz.o⟩,B9.o⟩
        ·rw[if_neg hqq] at gS;rw[decide_eq_false hqq] at gH;obtain⟨hn2,gM⟩:=gN.o gS;have Fq:=hd_ gM;clear gS hqq gK gN gM;go_wp2_with fail
         go_roundw
         case rel=>exact⟨n*2,Fq,hn2,rfl,B9,T1,T2,HX,HY⟩
         case measure=>simp[intOf];omega
       ·have GB:¬ xh.sign<0:=by have:=Kv xh;omega
        generalize xh.sign=sg at *;obtain⟨k0,k1,k2,-⟩:=Kd T1.o;obtain⟨m0,m1,m2,-⟩:=Kd T2.o;have s2:=BW.cell k2;have r2:=BW.cell m2;have gj:Nonempty (BW w7):=⟨⟨w7,Below.refl _ _⟩⟩;have I:Hid (Bw_ w7 w7.drew):=(Below.refl _ _).drew;go_wp2_with fail;clear k0 k1 k2 m0 m1 m2;refine RP.wp_region_readers 15 [(1,0),(1,1),(1,2),(1,4),(1,5),(1,6),(0,3),(0,7),(0,8),(2,9),(2,10),(2,11),(2,12),(0,13),(0,14),(0,15)] (fun w'=>∃ p:BW w7,w'=p.w) (by kernel_rfl) (by kernel_rfl) ?_ ?_
        ·exact⟨⟨_,I.o⟩,rfl⟩
        iterate 6 (refine wr_ rfl ?_;go_big_quiet_step (fail);refine wq_ ?_)
        clear gj s2 r2;refine wm_ rfl ?_;go_wp2_with fail;refine cm_ (EJ.o xl _ (by omega) (B7.o.drew)) ?_;rintro e_ wa ⟨rfl,hb⟩;have Wa:Hid (Bw_ w7 wa):=(Below.refl w7.heap.size w7).drew.trans hb;clear hb I;go_wp2_with fail;refine⟨⟨⟨_,Wa.o⟩,rfl⟩,?_⟩;refine wm_ rfl ?_;go_wp2_with fail;refine cm_ (EK.o yh _ (by omega) (bu_ B7 Wa.o)) ?_;rintro e_ wb ⟨rfl,hb⟩;have Wb:=bt_ Wa hb;clear hb Wa;go_wp2_with fail;refine⟨⟨⟨_,Wb.o⟩,rfl⟩,?_⟩;refine wm_ rfl ?_;go_wp2_with fail;refine cm_ (en.o xl yh _ (by omega) (by omega) (by omega) (bu_ B7 Wb.o)) ?_;rintro e_ wc ⟨rfl,hb⟩;have Wc:=bt_ Wb hb;clear hb Wb;go_wp2_with fail;refine⟨⟨⟨_,Wc.o⟩,rfl⟩,?_⟩;refine wa_ rfl ?_
        go_big_quiet_step (fail)
        refine wq_ ?_;refine wa_ rfl ?_
        go_big_quiet_step (fail)
        refine wq_ ?_;refine wa_ rfl ?_
        go_big_quiet_step (fail)
        refine wq_ ?_;refine wa_ rfl ?_
        go_big_quiet_step (fail)
        refine wq_ ?_;refine wm_ rfl ?_;go_wp2_with fail;refine⟨⟨⟨_,Wc.o⟩,rfl⟩,?_⟩;refine wm_ rfl ?_;go_wp2_with fail;refine⟨⟨⟨_,Wc.o⟩,rfl⟩,?_⟩;refine wm_ rfl ?_;go_wp2_with fail;simp only[RP.walkR];have hb:=Wc.o;have B8:=bt_ B7 hb;replace T1:=hk_ T1 hb;replace T2:=hk_ T2 hb;replace HX:=hd_ (HX.o.below hb);replace HY:=hd_ (HY.o.below hb);clear hb Wc B7;generalize wc=w8 at *;go_wp2_with fail;obtain⟨k0,k1,k2,-⟩:=Kd T1.o;obtain⟨m0,m1,m2,-⟩:=Kd T2.o;have s2:=BW.cell k2;have r2:=BW.cell m2;have gj:Nonempty (BW w8):=⟨⟨w8,Below.refl _ _⟩⟩;have I:Hid (Bw_ w8 w8.drew):=(Below.refl _ _).drew;go_wp2_with fail;clear k0 k1 k2 m0 m1 m2;refine RP.wp_region_readers 15 [(1,0),(1,1),(1,2),(1,4),(1,5),(1,6),(0,3),(0,7),(0,8),(2,9),(2,10),(2,11),(2,12),(0,13),(0,14),(0,15)] (fun w'=>∃ p:BW w8,w'=p.w) (by kernel_rfl) (by kernel_rfl) ?_ ?_
        ·exact⟨⟨_,I.o⟩,rfl⟩
        iterate 6 (refine wr_ rfl ?_;go_big_quiet_step (fail);refine wq_ ?_)
        clear gj s2 r2;refine wm_ rfl ?_;go_wp2_with fail;refine cm_ (EJ.o xh _ (by omega) (B8.o.drew)) ?_;rintro e_ wa ⟨rfl,hb⟩;have Wa:Hid (Bw_ w8 wa):=(Below.refl w8.heap.size w8).drew.trans hb;clear hb I;go_wp2_with fail;refine⟨⟨⟨_,Wa.o⟩,rfl⟩,?_⟩;refine wm_ rfl ?_;go_wp2_with fail;refine cm_ (EK.o yl _ (by omega) (bu_ B8 Wa.o)) ?_;rintro e_ wb ⟨rfl,hb⟩;have Wb:=bt_ Wa hb;clear hb Wa;go_wp2_with fail;refine⟨⟨⟨_,Wb.o⟩,rfl⟩,?_⟩;refine wm_ rfl ?_;go_wp2_with fail;refine cm_ (en.o xh yl _ (by omega) (by omega) (by omega) (bu_ B8 Wb.o)) ?_;rintro e_ wc ⟨rfl,hb⟩;have Wc:=bt_ Wb hb;clear hb Wb;go_wp2_with fail;refine⟨⟨⟨_,Wc.o⟩,rfl⟩,?_⟩;refine wa_ rfl ?_
        go_big_quiet_step (fail)
        refine wq_ ?_;refine wa_ rfl ?_
        go_big_quiet_step (fail)
        refine wq_ ?_;refine wa_ rfl ?_
        go_big_quiet_step (fail)
        refine wq_ ?_;refine wa_ rfl ?_
        go_big_quiet_step (fail)
        refine wq_ ?_;refine wm_ rfl ?_;go_wp2_with fail;refine⟨⟨⟨_,Wc.o⟩,rfl⟩,?_⟩;refine wm_ rfl ?_;go_wp2_with fail;refine⟨⟨⟨_,Wc.o⟩,rfl⟩,?_⟩;refine wm_ rfl ?_;go_wp2_with fail;simp only[RP.walkR];have hb:=Wc.o;have B9:=bt_ B8 hb;replace T1:=hk_ T1 hb;replace T2:=hk_ T2 hb;replace HX:=hd_ (HX.o.below hb);replace HY:=hd_ (HY.o.below hb);clear hb Wc B8;generalize wc=w9 at *;have gS:fl=if xl*(dy:Int)/(yh*(dx:Int))=xh*(dy:Int)/(yl*(dx:Int)) then some (xl*(dy:Int)/(yh*(dx:Int))) else none:=by
         rw[Hf.o];unfold flS;rw[if_neg (show ¬ yh<=0 by omega)];unfold flE LN.quoL LN.quoH;rw[if_neg (show ¬ yl<=0 by omega),if_neg (show ¬ xl<0 by omega),if_neg (show ¬ xh<0 by omega)]
        have gH:=Zbi (xl*(dy:Int)/(yh*(dx:Int))) (xh*(dy:Int)/(yl*(dx:Int)));clear Hf;generalize xl*(dy:Int)/(yh*(dx:Int))=q1 at *;generalize xh*(dy:Int)/(yl*(dx:Int))=q2 at *
        by_cases hqq:q1=q2
        ·rw[if_pos hqq] at gS;rw[decide_eq_true hqq] at gH;have fz:=hd_ (gK.o _ gS);clear gS hqq gK gN;go_wp2_with fail;go_ret;exact⟨⟨q1,rfl,fz.o⟩,B9.o⟩
        ·rw[if_neg hqq] at gS;rw[decide_eq_false hqq] at gH;obtain⟨hn2,gM⟩:=gN.o gS;have Fq:=hd_ gM;clear gS hqq gK gN gM;go_wp2_with fail
         go_roundw
         case rel=>exact⟨n*2,Fq,hn2,rfl,B9,T1,T2,HX,HY⟩
         case measure=>simp[intOf];omega
theorem Zww(f:Int->Nat)(l:List (Int×Int)):LN.eLo f (LN.negT l) = - LN.eHi f l/\LN.eHi f (LN.negT l) = - LN.eLo f l:=by
 rw[LN.eLo_eq,LN.eHi_eq,LN.eLo_eq,LN.eHi_eq,LN.negT_negT];omega
theorem Zkd(f:Int->Nat)(l:List (Int×Int)):LN.sumT f (LN.negT l) = - LN.sumT f l:=by
 rw[LN.sumT_eq,LN.sumT_eq,LN.negT_negT];omega
theorem Zdc(f:Int->Nat)(K:Nat)(l:List (Int×Int))(h:∀ x∈l,x.2.natAbs<=K):
  LN.eLo f l<=LN.sumT f l/\LN.sumT f l<=LN.eHi f l/\LN.eHi f l<=LN.sumT f l+(l.length*K:Nat)/\LN.sumT f l<=LN.eLo f l+(l.length*K:Nat):=by
 have h1:=LN.hiS_le f K l h;have h2:=LN.hiS_le f K (LN.negT l) (by
  intro x hx;obtain⟨y,hy,rfl⟩:=List.mem_map.1 hx;have:=h y hy
  show (-y.2).natAbs<=K
  omega)
 have e:(LN.negT l).length=l.length:=by simp[LN.negT]
 rw[e] at h2;have h3:∀ l:List (Int×Int),LN.loS f l<=LN.hiS f l:=by
  intro l
  induction l with
  | nil=>exact Nat.le_refl _
  | cons x l ih =>
   rw[LN.loS,LN.hiS];refine Nat.add_le_add (Nat.mul_le_mul_left _ ?_) ih;unfold LN.hiL;split<;>omega
 have h4:=h3 l;have h5:=h3 (LN.negT l);rw[LN.eLo_eq,LN.eHi_eq,LN.sumT_eq];omega
theorem Zr1(a b:Int):∀ (u:List Int) (pr:List Int) (g h:Int->Int),LN.dotI u (pr.map fun p=>a*g p-b*h p)=a*LN.dotI u (pr.map g)-b*LN.dotI u (pr.map h)
 | [],_,_,_=>by simp[LN.dotI]
 | _::_,[],_,_=>by simp[LN.dotI]
 | c::u,p::pr,g,h=>by
  have ih:=Zr1 a b u pr g h;simp only[List.map_cons,LN.dotI];rw[ih]
  grind
theorem Zjl{a b x y:Int}{W:Nat}(h1:x<=y+W)(h2:y<=x+W)(_:a=b):(a*x-b*y).natAbs<=a.natAbs*W:=by
 subst a;rw[<- Int.mul_sub,Int.natAbs_mul];exact Nat.mul_le_mul_left _ (by omega)
structure Qfm (KA SA Kx Ky d g S R Wx Wy:Nat) (X:Nat):Prop where
 s:Wy<S
 r:X*g<R*(S-Wy)
 k:g*Kx+R*d*Ky<=KA
 t:g*Wx+R*d*Wy<SA
theorem Zgb{xl low Tx Ty:Int}{d g Wx Wy:Nat}(j:Int)(h1:Tx<=xl+Wx)(h2:xl<=Tx+Wx)(h3:Ty<=low+Wy)(h4:low<=Ty+Wy)(s:Bool):
  (if s then j*(low*d)<=xl*g else xl*g<j*(low*d))->(if s then j*d*Ty<=g*Tx+(g*Wx+j.natAbs*d*Wy:Nat) else g*Tx-(g*Wx+j.natAbs*d*Wy:Nat)<=j*d*Ty):=by
 intro h;have a1:=Zjl (a:=(g:Int)) (b:=g) h1 h2 rfl;have a2:=Zjl (a:=j*(d:Int)) (b:=j*d) h3 h4 rfl;rw[Int.natAbs_natCast] at a1;rw[Int.natAbs_mul,Int.natAbs_natCast] at a2;have e1:j*(low*(d:Int))=j*(d:Int)*low:=by grind
 have e2:xl*(g:Int)=(g:Int)*xl:=Int.mul_comm _ _;rw[e1,e2] at h;cases s with
 | true=>simp only[if_true] at h ⊢;omega
 | false =>
  rw[if_neg Bool.false_ne_true] at h ⊢;omega
theorem Zro{tx ty:List (Int×Int)}{f:Int->Nat}{KA SA Kx Ky d g S R X:Nat}(hd:0<d)(hkx:∀ x∈tx,x.2.natAbs<=Kx)(hky:∀ x∈ty,x.2.natAbs<=Ky)
  (N:Qfm KA SA Kx Ky d g S R (tx.length*Kx) (ty.length*Ky) X) (hS:(S:Int)<=LN.sumT f ty) (hX:(LN.eLo f tx).natAbs<=X/\(LN.eHi f tx).natAbs<=X)
  (hnone:flE (LN.eLo f tx) (LN.eHi f tx) (LN.eLo f ty) (LN.eHi f ty) g d=none):∃ j:Int,j.natAbs<=R/\(g*LN.sumT f tx-j*d*LN.sumT f ty).natAbs<SA:=by
 obtain⟨x1,x2,x3,x4⟩:=Zdc f Kx tx hkx;obtain⟨y1,y2,y3,y4⟩:=Zdc f Ky ty hky;have hs:=N.s;have ht:=N.t;generalize tx.length*Kx=Wx at *;generalize ty.length*Ky=Wy at *;generalize LN.eLo f tx=xl at *;generalize LN.eHi f tx=xh at *;generalize LN.eLo f ty=yl at *;generalize LN.eHi f ty=yh at *;generalize LN.sumT f tx=Tx at *;generalize LN.sumT f ty=Ty at *;have ac:0<yl:=by omega
 unfold flE at hnone;rw[if_neg (by omega)] at hnone
 -- a quotient is not too great
 have hR:∀ (x low:Int),x.natAbs<=X->((S-Wy:Nat):Int)<=low->(x*g/(low*d)).natAbs<=R:=by
  intro x low hx hl;have hr:=N.r;have hp:0<low*(d:Int):=Int.mul_pos (by omega) (by omega);have h1:=Int.ediv_mul_le (x*(g:Int)) (show low*(d:Int)≠0 by omega);have h2:=Int.lt_ediv_add_one_mul_self (x*(g:Int)) hp;have h3:(x*(g:Int)).natAbs<=X*g:=by rw[Int.natAbs_mul,Int.natAbs_natCast];exact Nat.mul_le_mul_right _ hx
  have h4:((S-Wy:Nat):Int)<=low*(d:Int):=by
   have:low*1<=low*(d:Int):=Int.mul_le_mul_of_nonneg_left (by omega) (by omega)
   omega
  generalize x*(g:Int)/(low*(d:Int))=q at *;generalize low*(d:Int)=m at *;generalize x*(g:Int)=v at *;generalize X*g=V at *;have eN:(V:Int)<(R:Int)*((S-Wy:Nat):Int):=by rw[<- Int.natCast_mul];exact Int.ofNat_lt.2 hr
  have od:(R:Int)*((S-Wy:Nat):Int)<=(R:Int)*m:=Int.mul_le_mul_of_nonneg_left h4 (by omega);refine Nat.le_of_not_lt fun hc=>?_
  rcases Int.lt_or_le q 0 with hq|hq
  ·have h5:(q+1)*m<=(-(R:Int))*m:=Int.mul_le_mul_of_nonneg_right (by omega) (by omega);rw[Int.neg_mul] at h5;omega
  ·have h5:(R:Int)*m<=q*m:=Int.mul_le_mul_of_nonneg_right (by omega) (by omega);omega
 have fin:∀ j:Int,j.natAbs<=R->j*d*Ty<=g*Tx+(g*Wx+j.natAbs*d*Wy:Nat)->g*Tx-(g*Wx+j.natAbs*d*Wy:Nat)<=j*d*Ty->(g*Tx-j*d*Ty).natAbs<SA:=by
  intro j hj h1 h2;have h3:j.natAbs*d*Wy<=R*d*Wy:=Nat.mul_le_mul_right _ (Nat.mul_le_mul_right _ hj);omega
 -- what low and high are
 obtain⟨low,Gn,fJ,fP,hl3⟩:∃ low,(if xl<0 then yl else yh)=low/\Ty<=low+Wy/\low<=Ty+Wy/\((S-Wy:Nat):Int)<=low:=by
  by_cases h:xl<0
  ·exact⟨yl,if_pos h,by omega,by omega,by omega⟩
  ·exact⟨yh,if_neg h,by omega,by omega,by omega⟩
 obtain⟨high,fY,C0,Ai,hh3⟩:∃ high,(if xh<0 then yh else yl)=high/\Ty<=high+Wy/\high<=Ty+Wy/\((S-Wy:Nat):Int)<=high:=by
  by_cases h:xh<0
  ·exact⟨yh,if_pos h,by omega,by omega,by omega⟩
  ·exact⟨yl,if_neg h,by omega,by omega,by omega⟩
 have hq:=hR xl low hX.1 hl3;have hr:=hR xh high hX.2 hh3;have p1:0<low*(d:Int):=Int.mul_pos (by omega) (by omega);have p2:0<high*(d:Int):=Int.mul_pos (by omega) (by omega);have q1:=Int.ediv_mul_le (xl*(g:Int)) (show low*(d:Int)≠0 by omega);have q2:=Int.lt_ediv_add_one_mul_self (xl*(g:Int)) p1;have r1:=Int.ediv_mul_le (xh*(g:Int)) (show high*(d:Int)≠0 by omega);have r2:=Int.lt_ediv_add_one_mul_self (xh*(g:Int)) p2;unfold LN.quoL LN.quoH at hnone;rw[Gn,fY] at hnone;generalize xl*(g:Int)/(low*(d:Int))=q at *;generalize xh*(g:Int)/(high*(d:Int))=r at *;have gm:q≠r:=fun e=>by rw[if_pos e] at hnone;cases hnone
 rcases Int.lt_or_gt_of_ne gm with h|h
 ·refine⟨r,hr,fin r hr ?_ ?_⟩
  ·have:=Zgb (xl:=xh) (low:=high) (Tx:=Tx) (Ty:=Ty) (d:=d) (g:=g) (Wx:=Wx) (Wy:=Wy) r (by omega) (by omega) C0 Ai true (by simpa using r1)
   simpa using this
  ·have h5:(q+1)*(low*(d:Int))<=r*(low*(d:Int)):=Int.mul_le_mul_of_nonneg_right (by omega) (by omega);have:=Zgb (xl:=xl) (low:=low) (Tx:=Tx) (Ty:=Ty) (d:=d) (g:=g) (Wx:=Wx) (Wy:=Wy) r (by omega) (by omega) fJ fP false (by rw[if_neg Bool.false_ne_true];omega)
   rw[if_neg Bool.false_ne_true] at this;exact this
 ·refine⟨q,hq,fin q hq ?_ ?_⟩
  ·have:=Zgb (xl:=xl) (low:=low) (Tx:=Tx) (Ty:=Ty) (d:=d) (g:=g) (Wx:=Wx) (Wy:=Wy) q (by omega) (by omega) fJ fP true (by simpa using q1)
   simpa using this
  ·have h5:(r+1)*(high*(d:Int))<=q*(high*(d:Int)):=Int.mul_le_mul_of_nonneg_right (by omega) (by omega);have:=Zgb (xl:=xh) (low:=high) (Tx:=Tx) (Ty:=Ty) (d:=d) (g:=g) (Wx:=Wx) (Wy:=Wy) q (by omega) (by omega) C0 Ai false (by rw[if_neg Bool.false_ne_true];omega)
   rw[if_neg Bool.false_ne_true] at this;exact this
theorem Zea:Vm.Nodup:=by decide
def Qc4 (pr:List Int) (K S:Nat):Prop:=∀ k:List Int,k.length=pr.length->(∀ x∈k,x.natAbs<=K)->(LN.dotI (pr.map fun p=>((lf 1024 p:Nat):Int)) k).natAbs<S->∀ x∈k,x=0
theorem Zux:Qc4 Vm LN.KA LN.SA:=fun k hk hK hT=>by
 have hc:=LN.certA_ok;rw[<- Zlp] at hc;exact LN.cert_zero hc k (by rw[hk];simp) hK hT
theorem Zhw{pr:List Int}{KA SA:Nat}(hpd:pr.Nodup)(hZ:Qc4 pr KA SA){tx ty:List (Int×Int)}{d g Kx Ky R:Nat}{j:Int}(mx:∀ x∈tx,x.1∈pr)(my:∀ x∈ty,x.1∈pr)(nx:(tx.map Prod.fst).Nodup)(ny:(ty.map Prod.fst).Nodup)
  (hkx:∀ x∈tx,x.2.natAbs<=Kx) (hky:∀ x∈ty,x.2.natAbs<=Ky) (hj:j.natAbs<=R) (hk:g*Kx+R*d*Ky<=KA)
  (h:(g*LN.sumT (lf 1024) tx-j*d*LN.sumT (lf 1024) ty).natAbs<SA):∀ p∈pr,(g:Int)*LN.coefP p tx=j*d*LN.coefP p ty:=by
 rw[<- LN.dotI_coef (lf 1024) pr hpd tx mx,<- LN.dotI_coef (lf 1024) pr hpd ty my,<- Zr1] at h;have hz:=hZ (pr.map fun p=>(g:Int)*LN.coefP p tx-j*d*LN.coefP p ty) (by simp) (by
  intro x hx;obtain⟨p,_,rfl⟩:=List.mem_map.1 hx;have b1:=LN.coefP_le Kx tx nx hkx p;have b2:=LN.coefP_le Ky ty ny hky p;have c1:((g:Int)*LN.coefP p tx).natAbs<=g*Kx:=by rw[Int.natAbs_mul,Int.natAbs_natCast];exact Nat.mul_le_mul_left _ b1
  have c2:(j*d*LN.coefP p ty).natAbs<=R*d*Ky:=by
   rw[Int.natAbs_mul,Int.natAbs_mul,Int.natAbs_natCast];exact Nat.mul_le_mul (Nat.mul_le_mul_right _ hj) b2
  omega) h
 intro p hp;have:=hz _ (List.mem_map.2 ⟨p,hp,rfl⟩)
 omega
theorem Zyc{a dd:Int}{U V:List (List Int)}{K S:Nat}(hb:LN.certOk a LN.certL U V dd K S=true){ty:List (Int×Int)}(my:∀ x∈ty,x.1∈Vm)(ny:(ty.map Prod.fst).Nodup)(h0:∀ x∈ty,x.2≠0)(gm:ty≠[])(hky:∀ x∈ty,x.2.natAbs<=K):S<=(LN.sumT (lf 1024) ty).natAbs:=by
 refine Nat.le_of_not_lt fun hc=>?_
 rw[<- Zlp] at hb;rw[<- LN.dotI_coef (lf 1024) Vm Zea ty my] at hc;have hz:=LN.cert_zero hb (Vm.map fun p=>LN.coefP p ty) (by simp) (by
  intro x hx;obtain⟨p,_,rfl⟩:=List.mem_map.1 hx;exact LN.coefP_le _ ty ny hky p) hc
 match ty,gm with
 | x::l,_ =>
  have h5:=hz _ (List.mem_map.2 ⟨x.1,my x List.mem_cons_self,rfl⟩);rw[LN.coefP_mem _ ny x List.mem_cons_self] at h5;exact h0 x List.mem_cons_self h5
theorem Qbo{ty:List (Int×Int)}(my:∀ x∈ty,x.1∈Vm)(ny:(ty.map Prod.fst).Nodup)(h0:∀ x∈ty,x.2≠0)(gm:ty≠[])(hky:∀ x∈ty,x.2.natAbs<=LN.KB):LN.SB<=(LN.sumT (lf 1024) ty).natAbs :=
 Zyc LN.certB_ok my ny h0 gm hky
theorem Zdz{D:Nat}:∀ (ps:List Int) (l:List Rat),ps.Nodup->l.length=ps.length->∀ (i:Nat) (h1:i<ps.length) (h2:i<l.length),LN.coefP ps[i] (Kr D ps l)=LN.ex D l[i]
 | [],_,_,_,i,h1,_=>absurd h1 (Nat.not_lt_zero i)
 | p::ps,[],_,h,_,_,_=>by simp at h
 | p::ps,q::l,hd,hl,i,h1,h2=>by
  simp only[List.nodup_cons] at hd;have Ge:Kr D (p::ps) (q::l)=(if q.num=0 then Kr D ps l else (p,LN.ex D q)::Kr D ps l):=by
   unfold Kr;rw[List.zip_cons_cons,List.filterMap_cons]
   by_cases h:q.num=0
   ·simp only[h,if_true]
   ·simp only[h,if_false];rfl
  have FU:LN.coefP p (Kr D ps l)=0:=LN.coefP_none p _ fun hm=>hd.1 ((Vz D ps l).subset hm)
  rw[Ge];cases i with
  | zero =>
   simp only[List.getElem_cons_zero]
   by_cases h:q.num=0
   ·rw[if_pos h,FU,LN.ex_zero q h]
   ·rw[if_neg h,LN.coefP,if_pos rfl,FU];simp
  | succ i =>
   simp only[List.getElem_cons_succ];have FV:i<ps.length:=by simpa using h1
   have Ei:i<l.length:=by simpa using h2
   have ih:=Zdz (D:=D) ps l hd.2 (by simpa using hl) i FV Ei
   by_cases h:q.num=0
   ·rw[if_pos h];exact ih
   ·rw[if_neg h,LN.coefP,if_neg (fun e:p=ps[i]=>hd.1 (by rw[e];exact List.getElem_mem FV)),ih];simp
theorem Zkx{pr ps:List Int}{la lb:List Rat}{j:Int}(eP:ps.Nodup)(GP:∀ p∈ps,p∈pr)(l1:la.length=ps.length)(l2:lb.length=ps.length)
  (h:∀ p∈pr,((Ko lb:Nat):Int)*LN.coefP p (tlQ ps la)=j*((Ko la:Nat):Int)*LN.coefP p (tlQ ps lb)):la=lb.map fun x=>(j:Rat)*x:=by
 refine List.ext_getElem (by simp;omega) fun i h1 h2=>?_
 have i2:i<lb.length:=by omega
 have i3:i<ps.length:=by omega
 have e:=h ps[i] (GP _ (List.getElem_mem i3));unfold tlQ at e;rw[Zdz ps la eP l1 i i3 h1,Zdz ps lb eP l2 i i3 i2] at e;rw[List.getElem_map];have e2:(((Ko lb:Nat):Int)*LN.ex (Ko la) la[i]:Int)=((j*((Ko la:Nat):Int)*LN.ex (Ko lb) lb[i]:Int)):=e;have e3:((((Ko lb:Nat):Int)*LN.ex (Ko la) la[i]:Int):Rat)=((j*((Ko la:Nat):Int)*LN.ex (Ko lb) lb[i]:Int):Rat):=by rw[e2]
 rw[Rat.intCast_mul,Rat.intCast_mul,Rat.intCast_mul,LN.ex_eq (LN.tden_dvd (List.getElem_mem h1)),LN.ex_eq (LN.tden_dvd (List.getElem_mem i2)),Rat.intCast_natCast,Rat.intCast_natCast] at e3;have n1:((Ko la:Nat):Rat)≠0:=by have:=Rat.natCast_pos.2 (LN.tden_pos' la);grind
 have n2:((Ko lb:Nat):Rat)≠0:=by have:=Rat.natCast_pos.2 (LN.tden_pos' lb);grind
 generalize ((Ko la:Nat):Rat)=a at *;generalize ((Ko lb:Nat):Rat)=b at *;have G2:a*b≠0:=by
  intro hz;rcases Rat.mul_eq_zero.1 hz with h|h
  ·exact n1 h
  ·exact n2 h
 have e4:(a*b)*la[i]=(a*b)*((j:Rat)*lb[i]):=by grind
 have e5:=Rat.mul_inv_cancel (a*b) G2
 calc la[i]=(a*b)*(a*b)⁻¹ * la[i]:=by rw[e5,Rat.one_mul]
  _=(a*b)⁻¹ * ((a*b)*la[i]):=by grind
  _=(a*b)⁻¹ * ((a*b)*((j:Rat)*lb[i])):=by rw[e4]
  _=(a*b)*(a*b)⁻¹ * ((j:Rat)*lb[i]):=by grind
  _=(j:Rat)*lb[i]:=by rw[e5,Rat.one_mul]
theorem Zi8{la lb:List Rat}{k:Rat}(h:la=lb.map fun x=>k*x):∀ n,(∃ i,i<n/\lb.getD i 0≠0)->Yb la lb n=k
 | 0,⟨i,hi,_⟩=>absurd hi (Nat.not_lt_zero i)
 | n+1,⟨i,hi,h0⟩=>by
  unfold Yb
  by_cases hz:lb.getD n 0=0
  ·rw[if_pos hz];refine Zi8 h n ⟨i,?_,h0⟩;rcases Nat.lt_or_ge i n with gd|ag
   ·exact gd
   ·have:i=n:=by omega
    rw[this] at h0;exact absurd hz h0
  ·rw[if_neg hz];have gd:n<lb.length:=by
    refine Nat.lt_of_not_le fun hc=>hz ?_
    rw[List.getD_eq_getElem?_getD,List.getElem?_eq_none hc];rfl
   have e:la.getD n 0=k*lb.getD n 0:=by
    rw[h,List.getD_eq_getElem?_getD,List.getD_eq_getElem?_getD,List.getElem?_map,List.getElem?_eq_getElem gd];rfl
   rw[e];generalize lb.getD n 0=x at *;rw[Rat.div_def,Rat.mul_assoc,Rat.mul_inv_cancel x hz,Rat.mul_one]
theorem Zon{la lb:List Rat}{k:Rat}(h:la=lb.map fun x=>k*x)(n:Nat)(h0:∃ i,i<n/\lb.getD i 0≠0):Zee la lb n (Yb la lb n)=true:=by
 rw[Zi8 h n h0];refine decide_eq_true fun j _=>?_
 rw[h,List.getD_eq_getElem?_getD,List.getD_eq_getElem?_getD,List.getElem?_map];cases lb[j]? with
 | none=>show k*0=0;rw[Rat.mul_zero]
 | some x=>rfl
theorem Zrp{pr ps:List Int}{KA SA:Nat}(hpd:pr.Nodup)(hZ:Qc4 pr KA SA){la lb:List Rat}{Kx Ky R X S:Nat}(GP:∀ p∈ps,p∈pr)(eP:ps.Nodup)(l1:la.length=ps.length)(l2:lb.length=ps.length)(hkx:∀ x∈tlQ ps la,x.2.natAbs<=Kx)(hky:∀ x∈tlQ ps lb,x.2.natAbs<=Ky)
  (gm:tlQ ps lb≠[]) (hS:S<=(LN.sumT (lf 1024) (tlQ ps lb)).natAbs)
  (N:Qfm KA SA Kx Ky (Ko la) (Ko lb) S R ((tlQ ps la).length*Kx) ((tlQ ps lb).length*Ky) X) (hX:(LN.eLo (lf 1024) (tlQ ps la)).natAbs<=X/\(LN.eHi (lf 1024) (tlQ ps la)).natAbs<=X)
  (hr:Zee la lb ps.length (Yb la lb ps.length)=false):Zxx 1024 (tlQ ps la) (tlQ ps lb) (Ko la) (Ko lb)≠none:=by
 intro hnone;have mx:∀ x∈tlQ ps la,x.1∈pr:=fun x hx=>GP _ (Qm hx).1
 have my:∀ x∈tlQ ps lb,x.1∈pr:=fun x hx=>GP _ (Qm hx).1
 have nx:((tlQ ps la).map Prod.fst).Nodup:=(Vz _ ps la).nodup eP;have ny:((tlQ ps lb).map Prod.fst).Nodup:=(Vz _ ps lb).nodup eP;have Ge:∃ j:Int,j.natAbs<=R/\(((Ko lb:Nat):Int)*LN.sumT (lf 1024) (tlQ ps la)-j*((Ko la:Nat):Int)*LN.sumT (lf 1024) (tlQ ps lb)).natAbs<SA:=by
  have hd:=LN.tden_pos' la;obtain⟨y1,y2,y3,y4⟩:=Zdc (lf 1024) Ky (tlQ ps lb) hky;have hs:=N.s;unfold Zxx flS at hnone;rcases Int.lt_or_le 0 (LN.sumT (lf 1024) (tlQ ps lb)) with hT|hT
  ·rw[if_neg (by omega)] at hnone;exact Zro hd hkx hky N (by omega) hX hnone
  ·rw[if_pos (by omega)] at hnone;have IV:(LN.negT (tlQ ps la)).length=(tlQ ps la).length:=by simp[LN.negT]
   have IU:(LN.negT (tlQ ps lb)).length=(tlQ ps lb).length:=by simp[LN.negT]
   obtain⟨a1,a2⟩:=Zww (lf 1024) (tlQ ps la);obtain⟨b1,b2⟩:=Zww (lf 1024) (tlQ ps lb);have aN:∀ {l:List (Int×Int)} {K:Nat},(∀ x∈l,x.2.natAbs<=K)->∀ x∈LN.negT l,x.2.natAbs<=K:=by
    intro l K h x hx;obtain⟨y,hy,rfl⟩:=List.mem_map.1 hx;have:=h y hy
    show (-y.2).natAbs<=K
    omega
   obtain⟨j,hj,hz⟩:=Zro (f:=lf 1024) (tx:=LN.negT (tlQ ps la)) (ty:=LN.negT (tlQ ps lb)) (S:=S) (R:=R) (X:=X) hd (aN hkx) (aN hky) (by rw[IV,IU];exact N) (by rw[Zkd];omega) (by rw[a1,a2];omega) (by rw[a1,a2,b1,b2];exact hnone);refine⟨j,hj,?_⟩;rw[Zkd,Zkd,Int.mul_neg,Int.mul_neg] at hz;omega
 obtain⟨j,hj,hz⟩:=Ge;have hm:=Zkx eP GP l1 l2 (Zhw hpd hZ mx my nx ny hkx hky hj N.k hz);have h0:∃ i,i<ps.length/\lb.getD i 0≠0:=by
  refine Classical.byContradiction fun hc=>gm ?_
  have GI:∀ q∈lb,q=0:=fun q hq=>by
   obtain⟨i,hi,rfl⟩:=List.mem_iff_getElem.1 hq;refine Classical.byContradiction fun h=>hc ⟨i,by omega,?_⟩
   rw[List.getD_eq_getElem?_getD,List.getElem?_eq_getElem hi];exact h
  refine List.eq_nil_iff_forall_not_mem.2 fun x hx=>?_
  obtain⟨_,q,hq,hn,_⟩:=Qm hx;exact hn (by rw[GI q hq];rfl)
 rw[Zon hm ps.length h0] at hr;cases hr
theorem Zqq{n d K:Nat}(hd:n+d<=1056):∀ tl:List (Int×Int),(∀ x∈tl,x.1∈Zd1)->(∀ x∈tl,x.2.natAbs<=K) ->
  (LN.sumT (lf (n+d)) tl-2^d*LN.sumT (lf n) tl).natAbs<=tl.length*(K*2^d)
 | [],_,_=>by simp[LN.sumT]
 | x::tl,h,hk=>by
  have ih:=Zqq hd tl (fun y hy=>h y (List.mem_cons_of_mem _ hy)) (fun y hy=>hk y (List.mem_cons_of_mem _ hy));have hx:=hk x List.mem_cons_self;obtain⟨q,hq,gQ⟩:=Zbx (h x List.mem_cons_self);have hc:=Zo8 gQ d (n:=n) hd;have hm:=Nat.div_add_mod (lgN (q:Int) (n+d)) (2^d);have gd:=Nat.mod_lt (lgN (q:Int) (n+d)) (Nat.two_pow_pos d);rw[hc] at hm;generalize hr:lgN (q:Int) (n+d)%2^d=r at *;have e:LN.sumT (lf (n+d)) (x::tl)-2^d*LN.sumT (lf n) (x::tl)=x.2*(r:Int)+(LN.sumT (lf (n+d)) tl-2^d*LN.sumT (lf n) tl):=by
   simp only[LN.sumT];have e1:((lf (n+d) x.1:Nat):Int)=2^d*((lf n x.1:Nat):Int)+(r:Int):=by
    unfold lf;rw[hq,<- hm,Int.natCast_add,Int.natCast_mul,Int.natCast_pow];rfl
   rw[e1]
   grind
  rw[e,List.length_cons,Nat.succ_mul];have h1:(x.2*(r:Int)).natAbs<=K*2^d:=by
   rw[Int.natAbs_mul,Int.natAbs_natCast];exact Nat.mul_le_mul hx (Nat.le_of_lt gd)
  have h2:=Int.natAbs_add_le (x.2*(r:Int)) (LN.sumT (lf (n+d)) tl-2^d*LN.sumT (lf n) tl);omega
def vW:List Nat->Nat
 | []=>0
 | x::l=>x+18446744073709551616*vW l
theorem Zd7:∀ (a b:List Nat),vW (a++b)=vW a+18446744073709551616^a.length*vW b
 | [],b=>by simp[vW]
 | x::a,b=>by
  simp only[List.cons_append,vW,List.length_cons,Zd7 a b,Nat.pow_succ];rw[Nat.mul_add,<- Nat.mul_assoc,Nat.mul_comm (18446744073709551616^a.length)];omega
theorem Qbe(a:List Nat)(x:Nat):vW (a++[x])=vW a+18446744073709551616^a.length*x:=by
 rw[Zd7];simp[vW]
theorem Zj4(k:Nat):vW (List.replicate k 0)=0:=by
 induction k with
 | zero=>rfl
 | succ k ih=>rw[List.replicate_succ];simp[vW,ih]
def Wds (l:List Nat):Prop:=∀ x∈l,x<18446744073709551616
theorem Wds.getD{l:List Nat}(h:Wds l)(i:Nat):l.getD i 0<18446744073709551616:=by
 rw[List.getD_eq_getElem?_getD];cases hk:l[i]? with
 | none=>simp
 | some x=>exact h x (List.mem_of_getElem? hk)
theorem Wds.set{l:List Nat}(h:Wds l)(i x:Nat)(hx:x<18446744073709551616):Wds (l.set i x):=fun y hy=>by
 rcases List.mem_or_eq_of_mem_set hy with hy|hy
 ·exact h y hy
 ·rw[hy];exact hx
theorem Wds.take{l:List Nat}(h:Wds l)(k:Nat):Wds (l.take k):=fun x hx=>h x (List.mem_of_mem_take hx)
theorem Wds.append{l m:List Nat}(h:Wds l)(h2:Wds m):Wds (l++m):=fun x hx=>(List.mem_append.1 hx).elim (h x) (h2 x)
theorem Wds.zeros(k:Nat):Wds (List.replicate k 0):=fun x hx=>by rw[List.eq_of_mem_replicate hx];decide
theorem Zso:∀ {l:List Nat},Wds l->vW l<18446744073709551616^l.length
 | [],_=>by simp[vW]
 | x::l,h=>by
  have h1:=h x List.mem_cons_self;have h2:=Zso (l:=l) fun y hy=>h y (List.mem_cons_of_mem _ hy)
  rw[List.length_cons,Nat.pow_succ,vW];omega
theorem Zfn(l:List Nat)(k:Nat)(h:k<=l.length):vW l=vW (l.take k)+18446744073709551616^k*vW (l.drop k):=by
 conv=>lhs;rw[<- List.take_append_drop k l]
 rw[Zd7,List.length_take,Nat.min_eq_left h]
theorem Zc3(l:List Nat)(k:Nat)(h:k<l.length):vW (l.take (k+1))=vW (l.take k)+18446744073709551616^k*l.getD k 0:=by
 have e:l.getD k 0=l[k]:=by rw[List.getD_eq_getElem?_getD,List.getElem?_eq_getElem h];rfl
 rw[List.take_succ_eq_append_getElem h,Qbe,List.length_take,Nat.min_eq_left (Nat.le_of_lt h),e]
theorem Zgr:∀ (l:List Nat) (k x:Nat),k<l.length->vW (l.set k x)+18446744073709551616^k*l.getD k 0=vW l+18446744073709551616^k*x
 | [],k,x,h=>by simp at h
 | y::l,0,x,h=>by simp[vW];omega
 | y::l,k+1,x,h=>by
  have ih:=Zgr l k x (by simpa using h);simp only[List.set_cons_succ,vW,List.getD_cons_succ,Nat.pow_succ];rw[Nat.mul_comm (18446744073709551616^k),Nat.mul_assoc,Nat.mul_assoc];omega
theorem Zj5{l:List Nat}(h:Wds l){k:Nat}(hk:k<=l.length):vW (l.take k)=vW l%18446744073709551616^k:=by
 have h1:=Zso (h.take k);rw[List.length_take,Nat.min_eq_left hk] at h1;rw[Zfn l k hk,Nat.add_mul_mod_self_left,Nat.mod_eq_of_lt h1]
theorem Qbf{l:List Nat}(h:Wds l){k:Nat}(hk:k<=l.length):vW (l.drop k)=vW l/18446744073709551616^k:=by
 have h1:=Zso (h.take k);rw[List.length_take,Nat.min_eq_left hk] at h1;rw[Zfn l k hk,Nat.add_mul_div_left _ _ (Nat.pow_pos (by decide)),Nat.div_eq_of_lt h1,Nat.zero_add]
theorem Zj6{l:List Nat}(h:Wds l)(k:Nat):l.getD k 0=vW l/18446744073709551616^k%18446744073709551616:=by
 by_cases hk:k<l.length
 ·rw[<- Qbf h (Nat.le_of_lt hk),List.drop_eq_getElem_cons hk,vW,Nat.add_mul_mod_self_left];have e:l.getD k 0=l[k]:=by rw[List.getD_eq_getElem?_getD,List.getElem?_eq_getElem hk];rfl
  rw[e,Nat.mod_eq_of_lt (h _ (List.getElem_mem hk))]
 ·have h1:=Zso h;have h2:18446744073709551616^l.length<=18446744073709551616^k:=Nat.pow_le_pow_right (by decide) (by omega);rw[Nat.div_eq_of_lt (by omega),List.getD_eq_getElem?_getD,List.getElem?_eq_none (by omega)];rfl
theorem Zl1{l:List Nat}{X m:Nat}(hl:l.length=m)(h:∀ i,i<m->l.getD i 0=X/18446744073709551616^i%18446744073709551616):vW l=X%18446744073709551616^m:=by
 have Ge:∀ k,k<=m->vW (l.take k)=X%18446744073709551616^k:=by
  intro k
  induction k with
  | zero=>intro _;simp[vW,Nat.mod_one]
  | succ k ih =>
   intro hk;rw[Zc3 l k (by omega),ih (by omega),h k (by omega),Nat.pow_succ,Nat.mod_mul]
 have:=Ge m nr_
 rwa [List.take_of_length_le (by omega)] at this
/-! Squares. -/
theorem Qbq(M q:List Nat)(i m x cc vL:Nat)(hm:m<q.length)(hi:i+m<M.length)
  (h:vW M+18446744073709551616^(i+m)*cc=vL+18446744073709551616^i*(x*vW (q.take m))) :
  vW (M.set (i+m) ((x*q.getD m 0+M.getD (i+m) 0+cc)%18446744073709551616))+18446744073709551616^(i+(m+1))*((x*q.getD m 0+M.getD (i+m) 0+cc)/18446744073709551616) =
   vL+18446744073709551616^i*(x*vW (q.take (m+1))):=by
 have hs:=Zgr M (i+m) ((x*q.getD m 0+M.getD (i+m) 0+cc)%18446744073709551616) hi;rw[Zc3 q m hm];generalize M.getD (i+m) 0=e at *;generalize q.getD m 0=y at *;have ai:=Nat.mod_add_div (x*y+e+cc) 18446744073709551616;have e1:18446744073709551616^(i+(m+1))*((x*y+e+cc)/18446744073709551616)=18446744073709551616^(i+m)*(18446744073709551616*((x*y+e+cc)/18446744073709551616)):=by
  rw[<- Nat.add_assoc,Nat.pow_succ,Nat.mul_assoc]
 have e2:18446744073709551616^(i+m)*((x*y+e+cc)%18446744073709551616)+18446744073709551616^(i+m)*(18446744073709551616*((x*y+e+cc)/18446744073709551616))=18446744073709551616^(i+m)*(x*y)+18446744073709551616^(i+m)*e+18446744073709551616^(i+m)*cc:=by
  rw[<- Nat.mul_add,ai,Nat.mul_add,Nat.mul_add]
 have e3:18446744073709551616^i*(x*(vW (q.take m)+18446744073709551616^m*y))=18446744073709551616^i*(x*vW (q.take m))+18446744073709551616^(i+m)*(x*y):=by
  rw[Nat.mul_add,Nat.mul_add,Nat.pow_add,Nat.mul_assoc,Nat.mul_left_comm x]
 rw[e1,e3];omega
theorem Qds(L M p q:List Nat)(i cc:Nat)(hi:i<p.length)(gh:i+q.length<M.length)(hz:M.getD (i+q.length) 0=0)
  (hL:vW L=vW (p.take i)*vW q)
  (h:vW M+18446744073709551616^(i+q.length)*cc=vW L+18446744073709551616^i*(p.getD i 0*vW (q.take q.length))) :
  vW (M.set (i+q.length) cc)=vW (p.take (i+1))*vW q:=by
 have hs:=Zgr M (i+q.length) cc gh;rw[hz,Nat.mul_zero,Nat.add_zero] at hs;rw[List.take_length] at h;rw[hs,h,hL,Zc3 p i hi,Nat.add_mul,Nat.mul_assoc]
/-! Shifts. -/
theorem Qb3(X a k:Nat)(ha:a<2^k):a ||| (2^k*X)=a+2^k*X:=by
 have:=Nat.two_pow_add_eq_or_of_lt ha X
 rw[Nat.or_comm,<- this,Nat.add_comm]
theorem Zsn(Y r:Nat)(hr:0<r)(Ln:r<64):(Y%18446744073709551616)/2^r ||| (Y/18446744073709551616%18446744073709551616*2^(64-r)%18446744073709551616)=Y/2^r%18446744073709551616:=by
 have hB:(18446744073709551616:Nat)=2^(64-r)*2^r:=by rw[<- Nat.pow_add,show 64-r+r=64 by omega]
 have Lo:0<2^r:=Nat.two_pow_pos r;have ha:(Y%18446744073709551616)/2^r<2^(64-r):=by
  rw[Nat.div_lt_iff_lt_mul Lo,<- hB];exact Nat.mod_lt _ (by decide)
 generalize hb:Y/18446744073709551616%18446744073709551616=b;have e1:b*2^(64-r)%18446744073709551616=2^(64-r)*(b%2^r):=by
  conv=>lhs;rw[hB]
  rw[Nat.mul_comm b,Nat.mul_mod_mul_left]
 rw[e1,Qb3 _ _ _ ha];have e2:Y/2^r=(Y%18446744073709551616)/2^r+2^(64-r)*(Y/18446744073709551616):=by
  have h1:Y=Y%18446744073709551616+2^r*(2^(64-r)*(Y/18446744073709551616)):=by
   rw[<- Nat.mul_assoc,Nat.mul_comm (2^r),<- hB];exact(Nat.mod_add_div _ _).symm
  conv=>lhs;rw[h1]
  rw[Nat.add_mul_div_left _ _ Lo]
 rw[e2];have e3:b%2^r=Y/18446744073709551616%2^r:=by
  rw[<- hb,Nat.mod_mod_of_dvd];rw[hB];exact Nat.dvd_mul_left _ _
 rw[e3];generalize (Y%18446744073709551616)/2^r=a at *;generalize Y/18446744073709551616=Z;have e4:(a+2^(64-r)*Z)%18446744073709551616=a+2^(64-r)*(Z%2^r):=by
  rw[hB,Nat.mod_mul,Nat.add_mul_mod_self_left,Nat.mod_eq_of_lt ha,Nat.add_mul_div_left _ _ (Nat.two_pow_pos _),Nat.div_eq_of_lt ha,Nat.zero_add]
 rw[e4]
theorem Zoc(N wo r i:Nat):N/2^(64*wo+r)/18446744073709551616^i=N/18446744073709551616^(i+wo)/2^r:=by
 have e:(18446744073709551616:Nat)=2^64:=by decide
 rw[e,<- Nat.pow_mul,<- Nat.pow_mul,Nat.div_div_eq_div_mul,Nat.div_div_eq_div_mul,<- Nat.pow_add,<- Nat.pow_add];congr 2;omega
theorem Zsz(N i:Nat):N/18446744073709551616^(i+1)=N/18446744073709551616^i/18446744073709551616:=by
 rw[Nat.pow_succ,Nat.div_div_eq_div_mul]
def shW (n:List Nat) (wo r m:Nat):List Nat:=(List.range m).map fun i=>if r=0 then n.getD (i+wo) 0 else n.getD (i+wo) 0/2^r ||| (n.getD (i+wo+1) 0*2^(64-r)%18446744073709551616)
theorem Vo(n:List Nat)(wo r m:Nat):(shW n wo r m).length=m:=by simp[shW]
theorem Zu3(n:List Nat)(wo r m i:Nat)(h:i<m):(shW n wo r m).getD i 0=if r=0 then n.getD (i+wo) 0 else n.getD (i+wo) 0/2^r ||| (n.getD (i+wo+1) 0*2^(64-r)%18446744073709551616):=by
 unfold shW;rw[List.getD_eq_getElem?_getD,List.getElem?_map,List.getElem?_range h];rfl
theorem Zmj{n:List Nat}(h:Wds n){wo r m i:Nat}(hr:r<64)(hi:i<m):(shW n wo r m).getD i 0=vW n/2^(64*wo+r)/18446744073709551616^i%18446744073709551616:=by
 rw[Zu3 n wo r m i hi,Zoc]
 by_cases h0:r=0
 ·rw[if_pos h0,h0,Zj6 h,Nat.pow_zero,Nat.div_one]
 ·rw[if_neg h0,Zj6 h,Zj6 h (i+wo+1),Zsz];exact Zsn _ r (by omega) hr
theorem Zod{n:List Nat}(h:Wds n){wo r m:Nat}(hr:r<64):Wds (shW n wo r m):=by
 intro x hx;obtain⟨i,hi,rfl⟩:=List.mem_iff_getElem.1 hx;rw[Vo] at hi;have e:=Zmj h (wo:=wo) hr hi;rw[List.getD_eq_getElem?_getD,List.getElem?_eq_getElem (by rw[Vo];exact hi)] at e;have e':(shW n wo r m)[i]=vW n/2^(64*wo+r)/18446744073709551616^i%18446744073709551616:=e;rw[e'];exact Nat.mod_lt _ (by decide)
theorem Zoe{n:List Nat}(h:Wds n){wo r m:Nat}(hr:r<64)(hm:n.length<=wo+m):vW (shW n wo r m)=vW n/2^(64*wo+r):=by
 rw[Zl1 (Vo n wo r m) fun i hi=>Zmj h hr hi];refine Nat.mod_eq_of_lt ?_;have h1:=Zso h;have h2:18446744073709551616^n.length<=18446744073709551616^(wo+m):=Nat.pow_le_pow_right (by decide) hm;have e:(18446744073709551616:Nat)=2^64:=by decide
 have h3:vW n/2^(64*wo+r)<=vW n/2^(64*wo):=Nat.div_le_div_left (Nat.pow_le_pow_right (by decide) (by omega)) (Nat.two_pow_pos _);refine Nat.lt_of_le_of_lt h3 ?_;rw[Nat.div_lt_iff_lt_mul (Nat.two_pow_pos _),Nat.pow_mul,<- e,<- Nat.pow_add,Nat.add_comm m];omega
theorem Zgq:∀ (l:List Nat),vW l=0↔∀ x∈l,x=0
 | []=>by simp[vW]
 | x::l=>by
  have:=Zgq l
  rw[vW];constructor
  ·intro h y hy;rcases List.mem_cons.1 hy with rfl|hy
   ·omega
   ·exact this.1 (by omega) y hy
  ·intro h;have h1:=h x List.mem_cons_self;have h2:=this.2 fun y hy=>h y (List.mem_cons_of_mem _ hy)
   omega
/-! One more. -/
theorem Zvr(M:List Nat)(N k cc:Nat)(hk:k<M.length)(h:vW M+18446744073709551616^k*cc=N):
  vW (M.set k ((M.getD k 0+cc)%18446744073709551616))+18446744073709551616^(k+1)*((M.getD k 0+cc)/18446744073709551616)=N:=by
 have hs:=Zgr M k ((M.getD k 0+cc)%18446744073709551616) hk;generalize M.getD k 0=e at *;have ai:=Nat.mod_add_div (e+cc) 18446744073709551616;have e1:18446744073709551616^(k+1)*((e+cc)/18446744073709551616)=18446744073709551616^k*(18446744073709551616*((e+cc)/18446744073709551616)):=by
  rw[Nat.pow_succ,Nat.mul_assoc]
 have e2:18446744073709551616^k*((e+cc)%18446744073709551616)+18446744073709551616^k*(18446744073709551616*((e+cc)/18446744073709551616))=18446744073709551616^k*e+18446744073709551616^k*cc:=by
  rw[<- Nat.mul_add,ai,Nat.mul_add]
 rw[e1];omega
theorem elN:Zba Tryz.prog 372 204 (.int .u64 0) 1 8:=⟨Tryz.underlying372,info_parts Zto,rfl,by decide⟩
theorem Zvz(n:Nat)(w:World)(hn:n<=100000000):
  (Instr.makeSlice 372 (.int .i64 (n:Int)) (.int .i64 (n:Int))).run Tryz.prog w = .ok (.slice (some ⟨w.heap.size,0,none⟩) n n) (w.alloc (.cells (Zu (List.replicate n 0)).toArray 204)):=by
 have:=run_make_row' (P:=Tryz.prog) 372 204 (.int .u64 0) 8 Tryz.underlying372 Zto rfl .i64 .i64 n (by omega) (by omega) w
 rw[Zjm] at this;exact this
structure NW (W:World) where
 w:World
 b:Bw_ W w
theorem NW.cell{W:World}{p:Addr}{v:Value}(h:W.cell? p=some v)(q:NW W):q.w.cell? p=some v:=(q.b.cell (block_lt_of_cell h)).trans h
theorem wn_ {P : Program} {id : Nat} {Q : Exit -> Act -> World -> Prop} {a : Act} {w : World} {l : List Oper} (s : Nat) (ord : List (Nat × Nat)) (I : RowKit.Hid (RowKit.Below w.heap.size w w.drew)) (h : RP.walkR P l.toArray (fun w' => ∃ p : NW w, w' = p.w) s (fun a' w' => Q .normal a' w') ord false a { w with drawn := w.drawn + 1 }) (hm : P.follows .mixedOrders = true := by kernel_rfl) (hB : (Region.noSelect l.toArray && decide (ord.length = l.length) && RP.ordB .any l.toArray s ord (Array.replicate l.length false)) = true := by kernel_rfl) : (Code.region id l.toArray true).wp P Q a w := RP.wp_region_readers s ord _ hm hB ⟨⟨_, I.o⟩, rfl⟩ h
def Zpa:Go.Shelf.Ren:=⟨fun | 25=>313 | n=>n,fun | 22=>204 | n=>n,fun | n=>n⟩
theorem Qcd:Go.Proofs.Lays7.n25 Tryz.prog Zpa:={
 mixed:=by kernel_rfl
 f25:=Tryz.func313.trans (congrArg some (by kernel_rfl))
 t22:=Tryz.underlying204
 a22:=Tryz.isAgg204
 z22:=Tryz.sizeOf204
 v22:=Tryz.zeroValue204
 i22:=by kernel_rfl }
theorem Zny(x y c:Nat)(hc:c<=1)(w:World):
  (callFunc 313 #[.int .u64 x,.int .u64 y,.int .u64 c]).run Tryz.prog w = .ok (.value (.tuple #[.int .u64 (((x+y+c)%18446744073709551616:Nat):Int),.int .u64 (((x+y+c)/18446744073709551616:Nat):Int)])) w:=Any7.bits_Add64 Qcd x y c hc w
theorem Zj1(x y:Nat)(w:World):
  (callFunc 313 #[.int .u64 x,.int .u64 y,.int .u64 0]).run Tryz.prog w = .ok (.value (.tuple #[.int .u64 (((x+y)%18446744073709551616:Nat):Int),.int .u64 (((x+y)/18446744073709551616:Nat):Int)])) w:=Zny x y 0 (by omega) w
structure Qgq (p:List Nat) (B k:Nat) (L:List Nat) (w wr:World):Prop where
 len:L.length=2*p.length+1
 pcs:Wds L
 v:vW L=vW (p.take k)*vW p
 z:∀ j,k+p.length<=j->L.getD j 0=0
 own:Vh wr B (some ⟨B,0,none⟩) (2*p.length+1) L
 bel:Below B w wr
structure QIn (p L:List Nat) (B i m cc:Nat) (M:List Nat) (w wr:World):Prop where
 len:M.length=2*p.length+1
 pcs:Wds M
 v:vW M+18446744073709551616^(i+m)*cc=vW L+18446744073709551616^i*(p.getD i 0*vW (p.take m))
 z:∀ j,i+p.length<=j->M.getD j 0=0
 own:Vh wr B (some ⟨B,0,none⟩) (2*p.length+1) M
 bel:Below B w wr
theorem Qb6{x y:Nat}(hx:x<18446744073709551616)(hy:y<18446744073709551616):x*y<=340282366920938463426481119284349108225:=Nat.mul_le_mul (show x<=18446744073709551615 by omega) (show y<=18446744073709551615 by omega)
structure SqW (xy e cc h l l1 c1 h1 l2 c2 h2:Nat):Prop where
 hh:xy/18446744073709551616=h
 hl:xy%18446744073709551616=l
 k1:(l+e)%18446744073709551616=l1
 k2:(l+e)/18446744073709551616=c1
 k3:h+c1=h1
 k4:(l1+cc)%18446744073709551616=l2
 k5:(l1+cc)/18446744073709551616=c2
 k6:h1+c2=h2
 r1:(xy+e+cc)%18446744073709551616=l2
 r2:(xy+e+cc)/18446744073709551616=h2
 b1:h1<18446744073709551616
 b2:h2<18446744073709551616
theorem sqW{xy e cc:Nat}(ep:xy<=340282366920938463426481119284349108225)(he:e<18446744073709551616)(hc:cc<18446744073709551616):
  ∃ h l l1 c1 h1 l2 c2 h2,SqW xy e cc h l l1 c1 h1 l2 c2 h2:=by
 refine⟨_,_,_,_,_,_,_,_,⟨rfl,rfl,rfl,rfl,rfl,rfl,rfl,rfl,?_,?_,?_,?_⟩⟩<;>omega
theorem Ziy(w:World)(a1:OA_)(c1:Nat)(p:List Nat)(h1:Qq w a1 p)(p1:Wds p)(l1:p.length<=10000):
  Calls Tryz.prog 306 #[.slice a1 p.length c1] w fun e w'=>∃ a c L,e = .returned (.slice a (2*p.length+1) c)/\L.length=2*p.length+1/\Vh w' w.heap.size a c L/\Wds L/\vW L=vW p*vW p/\Bw_ w w':=by
 have H1:=hd_ h1;have P1:=hd_ p1;clear h1 p1;obtain⟨n,hn⟩:∃ n,p.length=n:=⟨_,rfl⟩;have Hn:=hd_ hn;rw[hn] at l1 ⊢;clear hn;have eA:=Zvz (2*n+1) w (by omega);have gA:=hd_ (Zcj w (List.replicate (2*n+1) 0) (by simp;omega));have Hb:=hd_ ((Below.refl w.heap.size w).alloc nr_ (.cells (Zu (List.replicate (2*n+1) 0)).toArray 204))
 push_cast at eA
 generalize w.alloc (.cells (Zu (List.replicate (2*n+1) 0)).toArray 204)=w1 at *;go_enter Tryz.func306,Tryz.ntmps306;go_wp2_with fail
 go_loopw [19] (fun i wr=>∃ (k:Nat) (L:List Nat),k<=n/\i = .int .i64 k/\Hid (Qgq p w.heap.size k L w wr)) (fun i _=>n-(intOf i).toNat)
 case atStart =>
  refine⟨0,List.replicate (2*n+1) 0,Nat.zero_le _,rfl,?_⟩;refine⟨by simp[Hn.o],Wds.zeros _,by simp[Zj4,vW],fun j _=>?_,?_,Hb.o⟩
  ·rw[List.getD_eq_getElem?_getD,List.getElem?_replicate];split<;>rfl
  ·have:=gA.o
   rw[List.length_replicate] at this;rw[Hn.o];exact this
 case round =>
  obtain⟨k,L,hk,rfl,HT⟩:=hrel;clear gA Hb eA
  by_cases gd:k<n
  ·obtain⟨b1,o1,rfl,HU,Ga⟩:=H1.o.open (by rw[Hn.o];omega);have cx:=Ga k (by rw[Hn.o];exact gd);rw[<- HT.o.bel.cell (p:=⟨b1,o1+k,none⟩) HU] at cx;have hx:=P1.o.getD k;clear Ga;obtain⟨x,hxx⟩:∃ x,p.getD k 0=x:=⟨_,rfl⟩;rw[hxx] at cx hx;have du:=hd_ hxx;clear hxx;obtain⟨wo,hwo⟩:∃ wo:World,wo=wr:=⟨_,rfl⟩;subst hwo;go_wp2_with fail
   go_loopw [6,26] (fun c j wr=>∃ (t cc:Nat) (M:List Nat),t<=n/\cc<18446744073709551616/\j = .int .i64 t/\c = .int .u64 cc/\Hid (QIn p L w.heap.size k t cc M w wr)) (fun _ j _=>n-(intOf j).toNat)
   case atStart =>
    refine⟨0,0,L,Nat.zero_le _,by omega,rfl,rfl,?_⟩;exact⟨HT.o.len,HT.o.pcs,by simp[vW],HT.o.z,HT.o.own,HT.o.bel⟩
   case round =>
    obtain⟨t,cc,M,ht,FO,rfl,rfl,HI⟩:=hrel;obtain⟨g,hg,Fn,hg2,hg3,hg4,hg5⟩:=HI.o.own.open (by rw[HI.o.len,Hn.o];omega);obtain rfl:w.heap.size=g:=by simpa using hg
    clear hg
    by_cases Gf:t<n
    ·have nL:=H1.o.open (by rw[Hn.o];omega);obtain⟨b2,o2,e2,H7,Gp⟩:=nL;have cy:=Gp t (by rw[Hn.o];exact Gf);rw[<- HI.o.bel.cell (p:=⟨b2,o2+t,none⟩) H7] at cy;simp only[Option.some.injEq,Addr.mk.injEq,and_true] at e2;obtain⟨rfl,rfl⟩:=e2;have hy:=P1.o.getD t;have ce:=hg4 (k+t) (by rw[HI.o.len,Hn.o];omega);have he:=HI.o.pcs.getD (k+t);have fe:=hg5 (k+t);have ep:=Qb6 hx hy;have gG:=Qbq M p k t x cc (vW L) (by rw[Hn.o];exact Gf) (by rw[HI.o.len,Hn.o];omega) (by have:=HI.o.v;rw[du.o] at this;exact this);have gv:Hid (QIn p L w.heap.size k (t+1) ((x*p.getD t 0+M.getD (k+t) 0+cc)/18446744073709551616) (M.set (k+t) ((x*p.getD t 0+M.getD (k+t) 0+cc)%18446744073709551616)) w (wr.setCell ⟨w.heap.size,k+t,none⟩ (.int .u64 ((x*p.getD t 0+M.getD (k+t) 0+cc)%18446744073709551616:Nat)))) :=
      ⟨by rw[List.length_set];exact HI.o.len,HI.o.pcs.set _ _ (Nat.mod_lt _ (by decide)),by rw[du.o];exact gG,fun j hj=>by rw[Zb _ _ _ _ (by have:=Hn.o;omega)];exact HI.o.z j hj,HI.o.own.store (k+t) _,HI.o.bel.setCell (p:=⟨w.heap.size,k+t,none⟩) nr_ _⟩
     have Fc:=Tryz.bits_Mul64 x (p.getD t 0) hx hy wr;clear gG Gp hg4 hg5;generalize M.getD (k+t) 0=e at *;generalize p.getD t 0=y at *;generalize x*y=xy at *;obtain⟨h,l,l1',c1',FV,l2,c2,h2,W⟩:=sqW ep he FO;have l7:=fun W=>Zj1 l e W
     have l6:=fun W=>Zj1 l1' cc W
     rw[W.k1,W.k2] at l7;rw[W.k4,W.k5] at l6;rw[W.hh,W.hl] at Fc;rw[W.r1,W.r2] at gv;have fH:IntKind.u64.wrap ((h:Int)+c1')=(FV:Nat):=by rw[<- Int.natCast_add,W.k3];exact Zbg _ W.b1
     have fM:IntKind.u64.wrap ((FV:Int)+c2)=(h2:Nat):=by rw[<- Int.natCast_add,W.k6];exact Zbg _ W.b2
     have H7:=W.b2;have ML:IntKind.i64.wrap ((k:Int)+t)=((k+t:Nat):Int):=by rw[<- Int.natCast_add];exact iw_ _ (by omega)
     clear W ep hx hy he;go_wp2_with fail;refine cm_ Fc ?_;rintro e_ w3 ⟨rfl,rfl⟩;clear Fc;go_wp2
     go_roundw
     case rel=>exact⟨t+1,h2,_,by omega,H7,by go_num,rfl,gv⟩
     case measure=>simp[intOf];omega
    ·obtain rfl:t=n:=by omega
     have fe:=hg5 (k+t);have ce:=hg4 (k+t) (by rw[HI.o.len,Hn.o];omega);have hz:M.getD (k+t) 0=0:=HI.o.z _ (by rw[Hn.o];exact Nat.le_refl _);have gR:=Qds L M p p k cc (by rw[Hn.o];exact gd) (by rw[HI.o.len,Hn.o];omega) (HI.o.z _ nr_) HT.o.v (by rw[Hn.o];exact HI.o.v);rw[Hn.o] at gR;have Fh:Hid (Qgq p w.heap.size (k+1) (M.set (k+t) cc) w (wr.setCell ⟨w.heap.size,k+t,none⟩ (.int .u64 (cc:Nat)))) :=
      ⟨by rw[List.length_set];exact HI.o.len,HI.o.pcs.set _ _ FO,gR,fun j hj=>by rw[Zb _ _ _ _ (by have:=Hn.o;omega)];exact HI.o.z j (by have:=Hn.o;omega),HI.o.own.store (k+t) cc,HI.o.bel.setCell (p:=⟨w.heap.size,k+t,none⟩) nr_ _⟩
     rw[hz] at ce;have ML:IntKind.i64.wrap ((k:Int)+t)=((k+t:Nat):Int):=by rw[<- Int.natCast_add];exact iw_ _ (by omega)
     have NT:IntKind.u64.wrap (cc:Int)=cc:=Zbg _ FO;clear gR hg4 hg5 Gf HT hz;go_wp2
     go_roundw
     case rel=>exact⟨k+1,_,by omega,by go_num,Fh⟩
     case measure=>simp[intOf];omega
  ·obtain rfl:k=n:=by omega
   have hv:vW L=vW p*vW p:=by
    have:=HT.o.v
    rw[<- Hn.o,List.take_length] at this;exact this
   have gh:=HT.o.len;rw[Hn.o] at gh;have Hv:=hd_ hv;have Hl:=hd_ gh;have Ho:=HT.o.own;rw[Hn.o] at Ho;have HO:=hd_ Ho;clear hv gd gh Ho;go_wp2_with fail;go_ret;exact⟨_,_,L,rfl,Hl.o,HO.o,HT.o.pcs,Hv.o,HT.o.bel⟩
def shM (n:List Nat) (wo r m k:Nat):List Nat:=(shW n wo r m).take k++List.replicate (m-k) 0
theorem Zyf(n:List Nat)(wo r m:Nat):shM n wo r m 0=List.replicate m 0:=by simp[shM]
theorem Qbs(n:List Nat)(wo r m:Nat):shM n wo r m m=shW n wo r m:=by
 unfold shM;rw[Nat.sub_self,List.replicate_zero,List.append_nil,List.take_of_length_le (by rw[Vo];exact Nat.le_refl _)]
theorem Zi4(n:List Nat)(wo r m k:Nat)(h:k<=m):(shM n wo r m k).length=m:=by
 unfold shM;rw[List.length_append,List.length_take,Vo,List.length_replicate];omega
theorem Qbr(n:List Nat)(wo r m k:Nat)(h:k<m):(shM n wo r m k).set k ((shW n wo r m).getD k 0)=shM n wo r m (k+1):=by
 have hl:((shW n wo r m).take k).length=k:=by rw[List.length_take,Vo];omega
 unfold shM;rw[List.set_append_right _ _ (by omega),hl,Nat.sub_self,List.take_add_one,List.getElem?_eq_getElem (by rw[Vo];exact h),show m-k=(m-(k+1))+1 by omega,List.replicate_succ,List.set_cons_zero,List.append_assoc];congr 1;rw[List.getD_eq_getElem?_getD,List.getElem?_eq_getElem (by rw[Vo];exact h)];rfl
theorem Zyk(x y r:Nat)(hx:x<18446744073709551616):
  bits .or .u64 ((x:Int)/2^r) (IntKind.u64.wrap ((y:Int)*2^(64-r)))=((x/2^r ||| (y*2^(64-r)%18446744073709551616):Nat):Int):=by
 have e1:(x:Int)/2^r=((x/2^r:Nat):Int):=by
  rw[Int.natCast_ediv,Int.natCast_pow];rfl
 have e2:IntKind.u64.wrap ((y:Int)*2^(64-r))=((y*2^(64-r)%18446744073709551616:Nat):Int):=by
  rw[IntKind.wrap_u64,Int.natCast_emod,Int.natCast_mul,Int.natCast_pow];rfl
 rw[e1,e2];exact(bits_nat .u64 64 (by decide) (fun n h0 h1=>by rw[IntKind.wrap_u64];omega) (x/2^r) (y*2^(64-r)%18446744073709551616) (by have:=Nat.div_le_self x (2^r);omega) (by have:=Nat.mod_lt (y*2^(64-r)) (show 0<18446744073709551616 by decide);omega)).2
theorem Zg6(w:World)(a1:OA_)(c1:Nat)(p:List Nat)(b wo r:Nat)(e:b=64*wo+r)(hr:r<64)(h1:Qq w a1 p)(p1:Wds p)(l1:p.length<=30000)(hwo:wo<p.length):
  Calls Tryz.prog 307 #[.slice a1 p.length c1,.int .i64 b] w fun e w'=>∃ a c,e = .returned (.slice a (p.length-wo) c)/\Vh w' w.heap.size a c (shW p wo r (p.length-wo))/\Bw_ w w':=by
 have H1:=hd_ h1;have P1:=hd_ p1;clear h1 p1;obtain⟨n,hn⟩:∃ n,p.length=n:=⟨_,rfl⟩;have Hn:=hd_ hn;rw[hn] at l1 hwo ⊢;clear hn;obtain⟨m,hm⟩:∃ m,n-wo=m:=⟨_,rfl⟩;have hq:Int.tdiv (b:Int) 64=(wo:Nat):=by rw[Int.tdiv_eq_ediv_of_nonneg (by omega)];omega
 have jq:(b:Int)/64=(wo:Nat):=by omega
 have ht:Int.tmod (b:Int) 64=(r:Nat):=by rw[Int.tmod_eq_emod_of_nonneg (by omega)];omega
 have N8:(b:Int)%64=(r:Nat):=by omega
 have lB:IntKind.i64.wrap ((n:Int)-wo)=(n:Int)-wo:=iw_ _ (by omega);have dh:((m:Nat):Int)=(n:Int)-wo:=by omega
 have lO:max ((n:Int)-wo) 0=(n:Int)-wo:=by omega
 have eA:=Zvz m w (by omega);rw[dh] at eA;have gA:=hd_ (Zcj w (List.replicate m 0) (by simp;omega));have Hb:=hd_ ((Below.refl w.heap.size w).alloc nr_ (.cells (Zu (List.replicate m 0)).toArray 204));generalize w.alloc (.cells (Zu (List.replicate m 0)).toArray 204)=w1 at *;rw[List.length_replicate] at gA;rw[hm];clear e;go_enter Tryz.func307,Tryz.ntmps307;go_wp2_with fail
 go_loopw [21] (fun i wr=>∃ k:Nat,k<=m/\i = .int .i64 k/\Hid (Vh wr w.heap.size (some ⟨w.heap.size,0,none⟩) m (shM p wo r m k))/\Hid (Bw_ w wr)) (fun i _=>m-(intOf i).toNat)
 case atStart=>exact⟨0,Nat.zero_le _,rfl,by rw[Zyf];exact gA,Hb⟩
 case round =>
  obtain⟨k,hk,rfl,HO,HB⟩:=hrel;clear gA Hb eA
  by_cases gd:k<m
  ·have gu:(k:Int)<m:=by omega
   obtain⟨b1,o1,rfl,HU,Ga⟩:=H1.o.open (by rw[Hn.o];omega);have cx:=Ga (k+wo) (by rw[Hn.o];omega);rw[<- HB.o.cell (p:=⟨b1,o1+(k+wo),none⟩) HU] at cx;have hx:=P1.o.getD (k+wo);obtain⟨g,hg,Fn,hg2,hg3,hg4,hg5⟩:=HO.o.open (by rw[Zi4 _ _ _ _ _ hk];omega);obtain rfl:w.heap.size=g:=by simpa using hg
   clear hg;have ce:=hg4 k (by rw[Zi4 _ _ _ _ _ hk];omega);have fe:=hg5 k;have Ac:IntKind.i64.wrap ((k:Int)+wo)=((k+wo:Nat):Int):=by rw[<- Int.natCast_add];exact iw_ _ (by omega)
   have fR:=Zu3 p wo r m k gd;have G3:=Qbr p wo r m k gd;have DL:((p.getD (k+wo) 0:Nat):Int)/2^r=((p.getD (k+wo) 0/2^r:Nat):Int):=by rw[Int.natCast_ediv,Int.natCast_pow];rfl
   have NV:p.getD (k+wo) 0/2^r<=p.getD (k+wo) 0:=Nat.div_le_self _ _;have Hv:=hd_ (show (r=0->p.getD (k+wo) 0/2^r=p.getD (k+wo) 0) from fun h=>by rw[h,Nat.pow_zero,Nat.div_one]);have Ju:=hd_ (fun y=>Zyk (p.getD (k+wo) 0) y r hx);have bV:k+wo+1<n->wr.cell? ⟨b1,o1+(k+wo+1),none⟩=some (.int .u64 (p.getD (k+wo+1) 0:Nat)):=fun h=>by
    rw[HB.o.cell (p:=⟨b1,o1+(k+wo+1),none⟩) HU];exact Ga (k+wo+1) (by rw[Hn.o];exact h)
   have nc:b1<wr.heap.size:=Nat.lt_of_lt_of_le HU HB.o.size;have gm:b1≠w.heap.size:=by omega
   have Fk:=fun (u:Value)=>HB.o.setCell (p:=⟨w.heap.size,k,none⟩) nr_ u
   have bD:=hd_ (HO.o.store k (p.getD (k+wo) 0/2^r));clear Ga hg4 hg5 hg3 gu;generalize p.getD (k+wo) 0=x at *;generalize x/2^r=v at *
   by_cases h1:r=0
   ·have hE:(shW p wo r m).getD k 0=v:=by rw[fR,if_pos h1];exact(Hv.o h1).symm
    rw[hE] at G3;rw[G3] at bD;have h0:¬ (0:Int)<r:=by omega
    have HR:=hd_ (Fk (.int .u64 v));clear fR G3 hE Fk Ju Hv bV HO HB h1;go_wp2_with fail;refine⟨⟨k+1,by omega,by go_num,bD,HR⟩,by simp[intOf];omega⟩
   ·by_cases h2:k+wo+1<n
    ·have cy:=bV h2;have hE:=fR;rw[if_neg h1] at hE;have As:=Ju.o (p.getD (k+wo+1) 0);have hy:=P1.o.getD (k+wo+1);rw[DL] at As;have h0:(0:Int)<r:=by omega
     have Ei:(k:Int)+wo+1<n:=by omega
     have jC:IntKind.i64.wrap (((k+wo:Nat):Int)+1)=((k+wo+1:Nat):Int):=by rw[<- Int.natCast_succ];exact iw_ _ (by omega)
     have Ln:IntKind.i64.wrap (64-(r:Int))=((64-r:Nat):Int):=by rw[show (64:Int)-r=((64-r:Nat):Int) by omega];exact iw_ _ (by omega)
     generalize p.getD (k+wo+1) 0=y at *;have Iv:(wr.setCell ⟨w.heap.size,k,none⟩ (.int .u64 (v:Nat))).cell? ⟨w.heap.size,k,none⟩=some (.int .u64 (v:Nat)):=World.cell?_setCell_same _ _ _ ce;have Lp:(wr.setCell ⟨w.heap.size,k,none⟩ (.int .u64 (v:Nat))).frozen? ⟨w.heap.size,k,none⟩=false:=by rw[World.frozen?_setCell];exact fe
     have nK:(wr.setCell ⟨w.heap.size,k,none⟩ (.int .u64 (v:Nat))).cell? ⟨b1,o1+(k+wo+1),none⟩=some (.int .u64 (y:Nat)):=by
      rw[World.cell?_setCell_other _ _ _ _ (by simp)];exact cy
     have Nx:=hd_ (Fk (.int .u64 (v:Nat)));have HE:=hd_ hE;clear fR hE Hv bV HO HB Fk cy;generalize hW1:wr.setCell ⟨w.heap.size,k,none⟩ (.int .u64 (v:Nat))=W1 at *;have q1:=NW.cell Iv;have q2:=NW.cell nK;have gj:Nonempty (NW W1):=⟨⟨W1,Below.refl _ _⟩⟩;have I:Hid (Bw_ W1 W1.drew):=(Below.refl _ _).drew;go_wp2_with fail;refine wn_ 16 [(2,0),(2,1),(2,2),(1,3),(2,4),(2,5),(2,6),(2,7),(2,8),(2,9),(1,10),(2,11),(2,12),(2,13),(2,14),(2,15),(0,16)] I ?_;iterate 3 (refine wa_ rfl ?_;go_big_quiet_step (fail);refine wq_ ?_)
     refine wr_ rfl ?_;go_big_quiet_step (fail);refine wq_ ?_;iterate 6 (refine wa_ rfl ?_;go_big_quiet_step (fail);refine wq_ ?_)
     refine wr_ rfl ?_;go_big_quiet_step (fail);refine wq_ ?_;iterate 5 (refine wa_ rfl ?_;go_big_quiet_step (fail);refine wq_ ?_)
     iterate 1 (refine wm_ rfl ?_;go_wp2_with fail)
     simp only[RP.walkR];go_wp2_with fail;have CO:=bD.o.store k (v ||| y*2^(64-r)%18446744073709551616);have e2:((shM p wo r m k).set k v).set k (v ||| y*2^(64-r)%18446744073709551616)=shM p wo r m (k+1):=by rw[List.set_set,<- HE.o];exact G3
     rw[e2] at CO;refine⟨⟨k+1,by omega,by go_num,CO.below (Qj _ 1) nr_,Qb (Nx.o.setCell (p:=⟨w.heap.size,k,none⟩) nr_ _) 1⟩,by simp[intOf];omega⟩
    ·have hz:p.getD (k+wo+1) 0=0:=by
      rw[List.getD_eq_getElem?_getD,List.getElem?_eq_none (by rw[Hn.o];omega)];rfl
     have hE:(shW p wo r m).getD k 0=v:=by rw[fR,if_neg h1,hz,Nat.zero_mul,Nat.zero_mod,Nat.or_zero]
     rw[hE] at G3;rw[G3] at bD;have h0:(0:Int)<r:=by omega
     have Ei:¬ (k:Int)+wo+1<n:=by omega
     have jC:IntKind.i64.wrap (((k+wo:Nat):Int)+1)=((k+wo+1:Nat):Int):=by rw[<- Int.natCast_succ];exact iw_ _ (by omega)
     have HR:=hd_ (Fk (.int .u64 v));clear fR G3 hE Fk Ju Hv bV HO HB hz;go_wp2_with fail;refine⟨⟨k+1,by omega,by go_num,bD,HR⟩,by simp[intOf];omega⟩
  ·obtain rfl:k=m:=by omega
   rw[Qbs] at HO;go_wp2_with fail;go_ret;exact⟨_,_,rfl,HO.o,HB.o⟩
theorem Ze7(w:World)(a:OA_)(c:Nat)(l:List Nat)(hr:Qq w a l)(hl:l.length<=30000)(h0:0<l.length):
  Calls Tryz.prog 305 #[.slice a l.length c] w fun e w'=>∃ g d,e = .returned (.slice (some ⟨g,0,none⟩) l.length d)/\Vh w' w.heap.size (some ⟨g,0,none⟩) d l/\Bw_ w w':=by
 obtain⟨i0,hi,eM,F9,fA⟩:=info_parts Zto;have NM:∀ (w:World) (a:OA_) (n c n' c':Nat),(binOp .eql 372 (.slice a n c) (.slice none n' c')).run Tryz.prog w = .ok (.bool a.isNone) w:=fun w a n c n' c'=>Lib.run_eql_slice_nil w _ _ a n c n' c' Tryz.underlying372
 obtain⟨b,o,rfl,fc,fZ⟩:=hr.open h0;have Hc:Hid (∀ j u,(Zu l)[j]?=some u->w.cell? ⟨b,o+j,none⟩=some u):=fun j u hj=>by
  have gd:j<l.length:=by
   have:=(List.getElem?_eq_some_iff.1 hj).1
   rw[Zw] at this;exact this
  rw[Zql l j gd] at hj;rw[<- hj];exact fZ j gd
 have EX:Hid (∀ u∈Zu l,u.oneCell'=true):=Zx4 l;have g7:Hid ((Zu l).length=l.length):=Zw l;clear fZ hr;unfold Vh;generalize Zu l=vs at *;generalize l.length=n at *;go_enter Tryz.func305,Tryz.ntmps305
 go_wp2_with (at_builtin;refine wpList_append_own _ rfl _ _ 372 rfl w.heap.size 204 i0 (.int .u64 0) 1 8 Tryz.underlying372 hi eM F9 fA rfl (by decide) _ _ _ rfl (World.ownsRow_made w #[] 0 nr_ (Nat.zero_le _) rfl) ⟨b,o,none⟩ n c vs rfl ?qc1 ?qc2 ?qc3 ?qc4 ?qc5 ?qc6 ?_)
 case qc1=>rw[g7.o];omega
 case qc2 =>
  intro j u hj;rw[Addr.add_lit];exact Lib.cell?_alloc_some _ (Hc.o j u hj)
 case qc3=>exact EX.o
 case qc4=>unfold maxLen;omega
 case qc5=>omega
 case qc6=>simp
 intro v' w1 gl GE Gy;obtain⟨a3,d3,rfl⟩:=Vk gl;have Fw:w1.ownsRow w.heap.size 204 1 (.slice a3 n d3) n vs:=by simpa using gl
 have B:=hd_ (((Below.refl _ w).alloc nr_ (.cells #[] 204)).grown GE (by simp) (by intro k hk;simp[Value.ownBlock] at hk;omega));obtain⟨g,cap,hv,-,-,-,-,-⟩:=Ye Fw h0;simp only[Value.slice.injEq] at hv;obtain⟨rfl,-,rfl⟩:=hv;have O:=hd_ Fw;clear gl Fw GE Gy;go_wp2_with fail;go_ret;exact⟨g,d3,rfl,O.o,B.o⟩
structure NxI (B n k cc N g c:Nat) (M:List Nat) (w wr:World):Prop where
 len:M.length=n+1
 pcs:Wds M
 v:vW M+18446744073709551616^k*cc=N
 own:Vh wr B (some ⟨g,0,none⟩) c M
 bel:Below B w wr
theorem Zyp(w:World)(a1:OA_)(c1:Nat)(p:List Nat)(h1:Qq w a1 p)(p1:Wds p)(l1:p.length<=20000)(h0:0<p.length):
  Calls Tryz.prog 308 #[.slice a1 p.length c1] w fun e w'=>∃ a c L,e = .returned (.slice a (p.length+1) c)/\L.length=p.length+1/\Vh w' w.heap.size a c L/\Wds L/\vW L=vW p+1/\Bw_ w w':=by
 have HC:=hd_ (Ze7 w a1 c1 p h1 (by omega) h0);have P1:=hd_ p1;have gd:=Zso p1;have Ib:vW (p++[0])=vW p:=by rw[Zd7];simp[vW]
 have eT:=hd_ gd;have Br:=hd_ Ib;have L0:Hid (Wds (p++[0])):=p1.append (Wds.zeros 1);clear p1 gd Ib h1;obtain⟨n,hn⟩:∃ n,p.length=n:=⟨_,rfl⟩;have Hn:=hd_ hn;rw[hn] at l1 h0 HC eT ⊢;clear hn;go_enter Tryz.func308,Tryz.ntmps308;go_wp2_with fail;refine cm_ HC.o ?_;rintro e w1 ⟨g,d,rfl,ho,hb⟩;have HO:=hd_ ho;have HB:=hd_ hb;clear ho hb HC;have gA:Hid (w1.ownsRow w.heap.size 204 1 (.slice (some ⟨g,0,none⟩) n d) n (Zu p)):=by have:=HO.o;unfold Vh at this;rw[Hn.o] at this;exact this
 have Ff:=hd_ HB.o.size
 go_wp2_with (at_builtin;refine Kz rfl (.tmp 7) (.tmp 8) 372 rfl elN _ 1 [.int .u64 0] rfl rfl gA.o Ff.o rfl (by simp[Value.oneCell']) (by omega) (by omega) ?_)
 intro v' w2 gl GE Gy;obtain⟨a3,d3,rfl⟩:=Vk gl;have Fw:w2.ownsRow w.heap.size 204 1 (.slice a3 (n+1) d3) (n+1) (Zu (p++[0])):=by rw[Vs];exact gl
 obtain⟨g2,cap,hv,-,-,-,-,-⟩:=Ye Fw (by omega);simp only[Value.slice.injEq] at hv;obtain⟨rfl,-,rfl⟩:=hv;have g7:Hid ((p++[0]).length=n+1):=by show _=_;rw[List.length_append,Hn.o];rfl
 have Fj:Hid (NxI w.heap.size n 0 1 (vW p+1) g2 d3 (p++[0]) w w2):=by
  refine⟨g7.o,L0.o,by rw[Nat.pow_zero,Br.o],?_,(HB.o.alloc Ff.o _).grown GE (by rw[World.alloc];simp;have:=Ff.o;omega) (by intro k hk;simp[Value.ownBlock] at hk;exact(World.ownsRow.lt gA.o k (by simp[Value.ownBlock];exact hk)).1)⟩;unfold Vh;rw[g7.o];exact Fw
 clear gl Fw GE Gy HO HB gA Ff L0;go_wp2_with fail
 go_loopw [4,12] (fun cv i wr=>∃ (k cc:Nat) (M:List Nat),k<=n+1/\cc<=1/\i = .int .i64 k/\cv = .int .u64 cc/\Hid (NxI w.heap.size n k cc (vW p+1) g2 d3 M w wr)) (fun _ i _=>n+1-(intOf i).toNat)
 case atStart=>exact⟨0,1,_,Nat.zero_le _,Nat.le_refl _,rfl,rfl,Fj⟩
 case round =>
  obtain⟨k,cc,M,hk,FO,rfl,rfl,HI⟩:=hrel;clear Fj
  by_cases gd:k<n+1
  ·obtain⟨g,hg,Fn,hg2,hg3,hg4,hg5⟩:=HI.o.own.open (by rw[HI.o.len];omega);obtain rfl:g2=g:=by simpa using hg
   clear hg;have gu:(k:Int)<(n:Int)+1:=by omega
   have ce:=hg4 k (by rw[HI.o.len];exact gd);have fe:=hg5 k;have he:=HI.o.pcs.getD k;have Fm:=Zvr M (vW p+1) k cc (by rw[HI.o.len];exact gd) HI.o.v;have eD:∀ W,(callFunc 313 #[.int .u64 (M.getD k 0:Nat),.int .u64 0,.int .u64 cc]).run Tryz.prog W = .ok (.value (.tuple #[.int .u64 (((M.getD k 0+cc)%18446744073709551616:Nat):Int),.int .u64 (((M.getD k 0+cc)/18446744073709551616:Nat):Int)])) W:=fun W=>by
    have:=Zny (M.getD k 0) 0 cc FO W
    rw[Nat.add_zero] at this;exact this
   have Gp:(M.getD k 0+cc)/18446744073709551616<=1:=by omega
   have Ac:IntKind.i64.wrap ((k:Int)+1)=((k+1:Nat):Int):=by rw[<- Int.natCast_succ];exact iw_ _ (by omega)
   have gv:Hid (NxI w.heap.size n (k+1) ((M.getD k 0+cc)/18446744073709551616) (vW p+1) g2 d3 (M.set k ((M.getD k 0+cc)%18446744073709551616)) w (wr.setCell ⟨g2,k,none⟩ (.int .u64 ((M.getD k 0+cc)%18446744073709551616:Nat)))) :=
    ⟨by rw[List.length_set];exact HI.o.len,HI.o.pcs.set _ _ (Nat.mod_lt _ (by decide)),Fm,HI.o.own.store k _,HI.o.bel.setCell (p:=⟨g2,k,none⟩) Fn _⟩
   have gP:=hd_ Gp;clear Fm Gp hg4 hg5 hg3 he HI;generalize (M.getD k 0+cc)/18446744073709551616=q at *;generalize (M.getD k 0+cc)%18446744073709551616=v at *;generalize M.getD k 0=e at *;go_wp2_with fail;refine⟨⟨k+1,q,_,by omega,gP.o,by go_num,rfl,gv⟩,by simp[intOf];omega⟩
  ·obtain rfl:k=n+1:=by omega
   have gu:¬ ((n+1:Nat):Int)<(n:Int)+1:=by omega
   have hv:=HI.o.v;have An:cc=0:=by
    have h2:=eT.o;have h3:18446744073709551616^n<18446744073709551616^(n+1):=Nat.pow_lt_pow_right (by decide) (by omega);rcases Nat.eq_zero_or_pos cc with h|h
    ·exact h
    ·have h4:18446744073709551616^(n+1)*1<=18446744073709551616^(n+1)*cc:=Nat.mul_le_mul_left _ h;generalize 18446744073709551616^(n+1)*cc=Z at *;omega
   rw[An,Nat.mul_zero,Nat.add_zero] at hv;have Hv:=hd_ hv;have gh:=HI.o.len;have Hl:=hd_ gh;have Ho:=HI.o.own;clear hv gh An;go_wp2_with fail;go_ret;exact⟨_,_,rfl,M,Hl.o,Ho,HI.o.pcs,Hv.o,HI.o.bel⟩
theorem Zvf{l:List Nat}{b wo r:Nat}(e:b=64*wo+r)(hr:r<64)(h:Wds l)(hw:wo<l.length):(∃ i,i<l.length-wo/\(shW l wo r (l.length-wo)).getD i 0≠0)↔2^b<=vW l:=by
 have hv:=Zoe h (wo:=wo) (m:=l.length-wo) hr (by omega);have hz:=Zgq (shW l wo r (l.length-wo));rw[hv,<- e] at hz;have h1:vW l/2^b=0↔vW l<2^b:=Nat.div_eq_zero_iff_lt (Nat.two_pow_pos b);have hl:=Vo l wo r (l.length-wo);constructor
 ·rintro⟨i,hi,gm⟩;refine Nat.le_of_not_lt fun hc=>?_
  have h2:=hz.1 (h1.2 hc) ((shW l wo r (l.length-wo)).getD i 0);refine gm (h2 ?_);rw[List.getD_eq_getElem?_getD,List.getElem?_eq_getElem (by rw[hl];exact hi)];exact List.getElem_mem _
 ·intro hc;refine Decidable.byContradiction fun hn=>?_
  have h2:=h1.1 (hz.2 fun x hx=>?_)
  ·omega
  ·obtain⟨i,hi,rfl⟩:=List.mem_iff_getElem.1 hx;refine Decidable.byContradiction fun hx=>hn ⟨i,by rw[hl] at hi;exact hi,?_⟩
   rw[List.getD_eq_getElem?_getD,List.getElem?_eq_getElem hi];exact hx
theorem Zok(w:World)(a1:OA_)(c1:Nat)(p:List Nat)(b wo r:Nat)(e:b=64*wo+r)(hr:r<64)(h1:Qq w a1 p)(p1:Wds p)(l1:p.length<=30000)(hwo:wo<p.length):
  Kc Tryz.prog 309 #[.slice a1 p.length c1,.int .i64 b] w (.bool (decide (2^b<=vW p))):=by
 unfold Kc;have HS:=hd_ (Zg6 w a1 c1 p b wo r e hr h1 p1 l1 hwo);have BC:=hd_ (Zvf e hr p1 hwo);obtain⟨m,hm⟩:∃ m,p.length-wo=m:=⟨_,rfl⟩;have nQ:=hd_ (Zod p1 (wo:=wo) (m:=p.length-wo) hr);have g7:=hd_ (Vo p wo r (p.length-wo));have jw:m<=30000:=by omega
 have di:0<m:=by omega
 rw[hm] at HS BC nQ g7;clear e h1 p1 l1 hwo hm hr;obtain⟨dd,Cz⟩:∃ dd,decide (2^b<=vW p)=dd:=⟨_,rfl⟩;have aF:=hd_ Cz;rw[Cz];clear Cz;generalize shW p wo r m=Ls at *;go_enter Tryz.func309,Tryz.ntmps309;go_wp2_with fail;refine cm_ HS.o ?_;rintro e w1 ⟨a,c,rfl,ho,hb⟩;have HO:=hd_ ho;have HB:=hd_ hb;clear ho hb HS;go_wp2_with fail
 go_loopw [11] (fun i wr=>∃ k:Nat,k<=m/\i = .int .i64 k/\Hid (∀ j,j<k->Ls.getD j 0=0)/\Hid (Bw_ w1 wr)) (fun i _=>m-(intOf i).toNat)
 case atStart=>exact⟨0,Nat.zero_le _,rfl,fun j hj=>absurd hj (Nat.not_lt_zero j),Below.refl _ _⟩
 case round =>
  obtain⟨k,hk,rfl,HZ,GC⟩:=hrel
  by_cases gd:k<m
  ·obtain⟨g,rfl,Fn,hg2,hg3,hg4,hg5⟩:=HO.o.open (by rw[g7.o];omega);have ce:=hg4 k (by rw[g7.o];exact gd);rw[<- GC.o.cell (p:=⟨g,k,none⟩) hg2] at ce;have Ac:IntKind.i64.wrap ((k:Int)+1)=((k+1:Nat):Int):=by rw[<- Int.natCast_succ];exact iw_ _ (by omega)
   have gu:(k:Int)<m:=by omega
   obtain⟨x,hx⟩:∃ x,Ls.getD k 0=x:=⟨_,rfl⟩;have Hx:=hd_ hx;rw[hx] at ce;clear hx hg4 hg5 hg3
   by_cases h0:x=0
   ·have Nt:Hid (∀ j,j<k+1->Ls.getD j 0=0):=fun j hj=>by
     rcases Nat.lt_or_ge j k with h|h
     ·exact HZ.o j h
     ·obtain rfl:j=k:=by omega
      rw[Hx.o,h0]
    subst h0;go_wp2_with fail;refine⟨⟨k+1,by omega,by go_num,Nt,GC⟩,by simp[intOf];omega⟩
   ·have Hd:Hid (dd=true):=by
     show _=_
     rw[<- aF.o,decide_eq_true_eq];exact BC.o.1 ⟨k,gd,by rw[Hx.o];exact h0⟩
    go_wp2_with fail;go_ret;exact⟨by rw[Hd.o];rfl,HB.o.trans (GC.o.mono HB.o.size)⟩
  ·obtain rfl:k=m:=by omega
   have Hd:Hid (dd=false):=by
    show _=_
    rw[<- aF.o,decide_eq_false_iff_not];intro hc;obtain⟨i,hi,gm⟩:=BC.o.2 hc;exact gm (HZ.o i hi)
   go_wp2_with fail;go_ret;exact⟨by rw[Hd.o];rfl,HB.o.trans (GC.o.mono HB.o.size)⟩
theorem Qe5(u E T:Nat)(h:E*E<=u*T):(2*u+E)*(2*u+E)<=u*(4*u+4*E+T):=by
 have e1:(2*u+E)*(2*u+E)=u*(4*u)+u*(4*E)+E*E:=by
  rw[Nat.mul_add,Nat.add_mul,Nat.add_mul];have a1:2*u*(2*u)=4*(u*u):=Nat.mul_mul_mul_comm 2 u 2 u;have a5:u*(4*u)=4*(u*u):=Nat.mul_left_comm ..;have a2:E*(2*u)=2*(u*E):=by rw[Nat.mul_left_comm,Nat.mul_comm E u]
  have a3:2*u*E=2*(u*E):=Nat.mul_assoc ..;have a4:u*(4*E)=4*(u*E):=Nat.mul_left_comm ..;omega
 rw[e1,Nat.mul_add,Nat.mul_add];omega
theorem Zz2{u E T hi:Nat}(h:E*E<=u*T)(hh:hi<=2*u+E):hi*hi/u<=4*u+4*E+T:=by
 have h1:hi*hi<=u*(4*u+4*E+T):=Nat.le_trans (Nat.mul_le_mul hh hh) (Qe5 u E T h);exact Nat.div_le_of_le_mul h1
theorem Zr3{p P:Nat}(hp:p.log2<=P)(h0:0<p):∀ n,n<=1000->n+64<=P->∀ s,Vr p P n=some s->s.2.1<=2*2^P+2^(n+2)*(n+1)
 | 0,_,_,s,h=>by
  simp only[Vr,Option.some.injEq] at h;subst h;have h1:p<2^(p.log2+1):=Nat.lt_log2_self;have h3:p*2^(P-p.log2)<2^(p.log2+1)*2^(P-p.log2):=Nat.mul_lt_mul_of_pos_right h1 (Nat.two_pow_pos _);rw[<- Nat.pow_add,show p.log2+1+(P-p.log2)=P+1 by omega,Nat.pow_succ] at h3
  show p*2^(P-p.log2)<=_
  omega
 | n+1,hn,hP,s,h=>by
  simp only[Vr] at h;obtain⟨t,ht,hs⟩:=Option.bind_eq_some_iff.1 h;have ih:=Zr3 hp h0 n (by omega) (by omega) t ht;obtain⟨l,g,o⟩:=t;simp only at ih;have hE:(2^(n+2)*(n+1))*(2^(n+2)*(n+1))<=2^P*2^n:=by
   have h1:(n+1)<=2^10:=by omega
   have h2:2^(n+2)*(n+1)<=2^(n+2)*2^10:=Nat.mul_le_mul_left _ h1;have h3:(2^(n+2)*(n+1))*(2^(n+2)*(n+1))<=(2^(n+2)*2^10)*(2^(n+2)*2^10):=Nat.mul_le_mul h2 h2;refine Nat.le_trans h3 ?_;rw[<- Nat.pow_add,<- Nat.pow_add,<- Nat.pow_add];exact Nat.pow_le_pow_right (by decide) (by omega)
  have h2:=Zz2 hE ih;have e1:2^(n+1+2)*(n+1+1)=2*(2^(n+2)*(n+1))+8*2^n:=by
   rw[show n+1+2=(n+2)+1 by omega,Nat.pow_succ 2 (n+2),show 8*2^n=2^(n+2)*2 by rw[Nat.pow_add];omega,Nat.mul_add (2^(n+2)*2) (n+1) 1,Nat.mul_one,Nat.mul_comm (2^(n+2)) 2,Nat.mul_assoc]
  have f9:=Nat.two_pow_pos n;rw[e1];simp only[Ve] at hs;generalize 2^(n+2)*(n+1)=E at *;generalize g*g/2^P=G at *;generalize l*l/2^P=M at *;generalize 2^P=u at *;generalize 2^n=T at *
  by_cases c1:2*u<=M
  ·rw[if_pos c1] at hs;cases hs
   show (G+1)/2+1<=_
   omega
  ·rw[if_neg c1] at hs
   by_cases c2:2*u<=G+1
   ·rw[if_pos c2] at hs;cases hs
   ·rw[if_neg c2] at hs;cases hs
    show G+1<=_
    omega
theorem Zpu{p P:Nat}:∀ n s,Vr p P n=some s->s.1<=s.2.1
 | 0,s,h=>by
  simp only[Vr,Option.some.injEq] at h;subst h;exact Nat.le_refl _
 | n+1,s,h=>by
  simp only[Vr] at h;obtain⟨t,ht,hs⟩:=Option.bind_eq_some_iff.1 h;have ih:=Zpu n t ht;obtain⟨l,g,o⟩:=t;simp only at ih;have h2:l*l/2^P<=g*g/2^P:=Nat.div_le_div_right (Nat.mul_le_mul ih ih);simp only[Ve] at hs;generalize g*g/2^P=G at *;generalize l*l/2^P=M at *;generalize 2^P=u at *
  by_cases c1:2*u<=M
  ·rw[if_pos c1] at hs;cases hs
   show M/2<=(G+1)/2+1
   omega
  ·rw[if_neg c1] at hs
   by_cases c2:2*u<=G+1
   ·rw[if_pos c2] at hs;cases hs
   ·rw[if_neg c2] at hs;cases hs
    show M<=G+1
    omega
theorem Zwn{P n hi:Nat}(hn:n<=1000)(hP:n+64<=P)(h:hi<=2*2^P+2^(n+2)*(n+1)):hi<18446744073709551616^(P/64+2):=by
 have h1:(n+1)<=2^10:=by omega
 have h2:2^(n+2)*(n+1)<=2^(n+2)*2^10:=Nat.mul_le_mul_left _ h1;have h3:2^(n+2)*2^10<=2^P:=by
  rw[<- Nat.pow_add];exact Nat.pow_le_pow_right (by decide) (by omega)
 have e:(18446744073709551616:Nat)=2^64:=by decide
 rw[e,<- Nat.pow_mul];have h4:2^(P+2)<=2^(64*(P/64+2)):=Nat.pow_le_pow_right (by decide) (by omega);rw[Nat.pow_add] at h4;have h5:=Nat.two_pow_pos P;omega
def Zf4 (u l g:Nat):Option (Bool×Nat×Nat) :=
 if 2*u<=l*l/u then some (true,l*l/u/2,(g*g/u+1)/2+1)
 else if 2*u<=g*g/u+1 then none else some (false,l*l/u,g*g/u+1)
theorem Znj(u l g o:Nat):Ve u (l,g,o)=(Zf4 u l g).map fun x=>(x.2.1,x.2.2,2*o+x.1.toNat):=by
 unfold Zf4;simp only[Ve];split
 ·rfl
 ·split<;>rfl
def Qdd (p P j:Nat):Bool:=match Vr p P (j+1) with
 | some s=>s.2.2%2==1
 | none=>false
def Zd0 (p P n:Nat):List Bool:=(List.range n).map (Qdd p P)
theorem Yl(p P n:Nat):(Zd0 p P n).length=n:=by simp[Zd0]
theorem Zua(p P n:Nat):Zd0 p P (n+1)=Zd0 p P n++[Qdd p P n]:=by simp[Zd0,List.range_succ]
theorem Zxk(p P n j:Nat)(h:j<n):(Zd0 p P n).getD j false=Qdd p P j:=by
 unfold Zd0;rw[List.getD_eq_getElem?_getD,List.getElem?_map,List.getElem?_range h];rfl
theorem Zmb{p P n l g o:Nat}(h:Vr p P n=some (l,g,o)):
  Vr p P (n+1)=(Zf4 (2^P) l g).map fun x=>(x.2.1,x.2.2,2*o+x.1.toNat):=by
 simp only[Vr,h,Option.bind_some];exact Znj ..
theorem Zg5{p P n l g o:Nat}{b:Bool}{l' g':Nat}(h:Vr p P n=some (l,g,o))(hs:Zf4 (2^P) l g=some (b,l',g')):
  Vr p P (n+1)=some (l',g',2*o+b.toNat)/\Qdd p P n=b:=by
 have h1:=Zmb h;rw[hs] at h1;refine⟨h1,?_⟩;unfold Qdd;rw[h1]
 show ((2*o+b.toNat)%2==1)=b
 cases b
 ·have:(2*o+0)%2=0:=by omega
  show ((2*o+0)%2==1)=false
  rw[this];rfl
 ·have:(2*o+1)%2=1:=by omega
  show ((2*o+1)%2==1)=true
  rw[this];rfl
theorem Zl9{p P n l g o:Nat}(h:Vr p P n=some (l,g,o))(hs:Zf4 (2^P) l g=none):Vr p P (n+1)=none:=by
 rw[Zmb h,hs];rfl
theorem Zzr{p P n:Nat}{s t:Nat×Nat×Nat}(h:Vr p P n=some s)(h2:Vr p P (n+1)=some t):t.2.2=2*s.2.2+(Qdd p P n).toNat:=by
 obtain⟨l,g,o⟩:=s;cases hs:Zf4 (2^P) l g with
 | none=>rw[Zl9 h hs] at h2;cases h2
 | some x =>
  obtain⟨b,l',g'⟩:=x;obtain⟨h3,h4⟩:=Zg5 h hs;rw[h3] at h2;cases h2
  rw[h4]
/-! The words of a prime. -/
theorem Qdj(m i x y:Nat)(h:i+1<m):vW (((List.replicate m 0).set i x).set (i+1) y)=18446744073709551616^i*(x+18446744073709551616*y):=by
 have h1:=Zgr (List.replicate m 0) i x (by simp;omega);have h2:=Zgr ((List.replicate m 0).set i x) (i+1) y (by simp;omega);have e1:(List.replicate m 0).getD i 0=0:=by rw[List.getD_eq_getElem?_getD,List.getElem?_replicate];split<;>rfl
 have e2:((List.replicate m 0).set i x).getD (i+1) 0=0:=by
  rw[List.getD_eq_getElem?_getD,List.getElem?_set_ne (by omega),List.getElem?_replicate];split<;>rfl
 rw[e1,Zj4,Nat.mul_zero,Nat.zero_add] at h1;rw[e2,Nat.mul_zero] at h2;simp only[Nat.add_zero] at h1 h2;rw[h2,h1,Nat.mul_add,Nat.pow_succ,Nat.mul_assoc]
theorem Qdk(m i x:Nat)(h:i<m):vW ((List.replicate m 0).set i x)=18446744073709551616^i*x:=by
 have h1:=Zgr (List.replicate m 0) i x (by simp;omega);have e1:(List.replicate m 0).getD i 0=0:=by rw[List.getD_eq_getElem?_getD,List.getElem?_replicate];split<;>rfl
 rw[e1,Zj4,Nat.mul_zero,Nat.zero_add] at h1
 simpa using h1
def Qcx (p at_ m:Nat):List Nat :=
 let l:=(List.replicate m 0).set (at_/64) (p*2^(at_%64)%18446744073709551616)
 if 0<at_%64 then l.set (at_/64+1) (p/2^(64-at_%64)) else l
theorem Zqb(p at_ m:Nat):(Qcx p at_ m).length=m:=by unfold Qcx;dsimp only;split<;>simp
theorem Zz5(p at_ m:Nat)(hp:p<128)(h:at_/64+1<m):vW (Qcx p at_ m)=p*2^at_:=by
 have nH:(18446744073709551616:Nat)=2^64:=by decide
 have ea:2^at_=2^(64*(at_/64))*2^(at_%64):=by rw[<- Nat.pow_add];congr 1;omega
 have eb:(18446744073709551616:Nat)^(at_/64)=2^(64*(at_/64)):=by rw[nH,<- Nat.pow_mul]
 unfold Qcx
 dsimp only
 split
 ·rename_i h0
  rw[Qdj m _ _ _ h,eb,ea];have e2:p/2^(64-at_%64)=p*2^(at_%64)/18446744073709551616:=by
   have e3:(18446744073709551616:Nat)=2^(64-at_%64)*2^(at_%64):=by rw[<- Nat.pow_add,show 64-at_%64+at_%64=64 by omega]
   rw[e3,Nat.mul_div_mul_right _ _ (Nat.two_pow_pos _)]
  rw[e2,Nat.mod_add_div,Nat.mul_left_comm]
 ·rename_i h0
  rw[Qdk m _ _ (by omega),eb,ea];have h1:at_%64=0:=by omega
  rw[h1,Nat.pow_zero,Nat.mul_one,Nat.mul_one,Nat.mod_eq_of_lt (by omega),Nat.mul_comm]
theorem Zz4(p at_ m:Nat)(hp:p<128):Wds (Qcx p at_ m):=by
 have h1:Wds ((List.replicate m 0).set (at_/64) (p*2^(at_%64)%18446744073709551616)):=(Wds.zeros m).set _ _ (Nat.mod_lt _ (by decide));unfold Qcx
 dsimp only
 split
 ·refine h1.set _ _ ?_;have:=Nat.div_le_self p (2^(64-at_%64))
  omega
 ·exact h1
/-! Digits in groups. -/
structure MaS (w:World) (B R P:Nat) (a1:OA_) (c1:Nat) (L:List Nat) (a2:OA_) (c2:Nat) (H:List Nat):Prop where
 ob:w.heap[R]?=some (.cells #[.slice a1 L.length c1,.slice a2 H.length c2,.int .i64 P] 375 (0,0))
 o1:Vh w B a1 c1 L
 o2:Vh w B a2 c2 H
 p1:Wds L
 p2:Wds H
def Zxt (w:World) (B R P lo hi:Nat):Prop:=∃ a1 c1 L a2 c2 H,MaS w B R P a1 c1 L a2 c2 H/\B<=R/\L.length=P/64+2/\H.length=P/64+2/\vW L=lo/\vW H=hi
theorem MaS.below{w w':World}{B R P:Nat}{a1 a2:OA_}{c1 c2:Nat}{L H:List Nat}(h:MaS w B R P a1 c1 L a2 c2 H)(hb:Bw_ w w'):MaS w' B R P a1 c1 L a2 c2 H :=
 ⟨by rw[hb.block R (Array.getElem?_eq_some_iff.1 h.ob).1];exact h.ob,h.o1.below hb nr_,h.o2.below hb nr_,h.p1,h.p2⟩
theorem Qh{w:World}{g:Nat}{a b c:Value}{t:TypeId}(h:w.heap[g]?=some (.cells #[a,b,c] t (0,0))):
  w.cell? ⟨g,0,none⟩=some a/\w.cell? ⟨g,1,none⟩=some b/\w.cell? ⟨g,2,none⟩=some c/\(∀ j,w.frozen? ⟨g,j,none⟩=false):=by
 refine⟨by rw[cell_of_row w g 0 _ t (0,0) h];rfl,by rw[cell_of_row w g 1 _ t (0,0) h];rfl,by rw[cell_of_row w g 2 _ t (0,0) h];rfl,fun j=>?_⟩;simp[World.frozen?,h]
theorem Zf2(x:Nat)(h:x<18446744073709551616):bits .or .u64 (0:Int) (x:Int)=(x:Int):=by
 have:=(bits_nat .u64 64 (by decide) (fun n h0 h1=>by rw[IntKind.wrap_u64];omega) 0 x (by omega) (by omega)).2
 rw[Nat.zero_or] at this;exact this
theorem Zxl(w:World)(p k P:Nat)(hp:p<128)(hk:k<=P)(hP:P<=2000):
  Calls Tryz.prog 292 #[.int .i64 p,.int .i64 k,.int .i64 P] w fun e w'=>∃ R,e = .returned (.pointer (some ⟨R,0,none⟩))/\Zxt w' w.heap.size R P (p*2^(P-k)) (p*2^(P-k))/\Bw_ w w':=by
 obtain⟨n,hn⟩:∃ n,P/64+2=n:=⟨_,rfl⟩;obtain⟨t,ht⟩:∃ t,P-k=t:=⟨_,rfl⟩;have eA:=Zvz n w (by omega);have gA:=hd_ (Zcj w (List.replicate n 0) (by simp;omega));have Hb:=hd_ ((Below.refl w.heap.size w).alloc nr_ (.cells (Zu (List.replicate n 0)).toArray 204));rw[List.length_replicate] at gA;obtain⟨m,hm⟩:∃ m,P/64=m:=⟨_,rfl⟩;obtain⟨i,hi0⟩:∃ i,t/64=i:=⟨_,rfl⟩;obtain⟨r,Ca⟩:∃ r,t%64=r:=⟨_,rfl⟩;have hq:Int.tdiv (P:Int) 64=(m:Nat):=by rw[Int.tdiv_eq_ediv_of_nonneg (by omega)];omega
 have jq:(P:Int)/64=(m:Nat):=by omega
 have Ct:IntKind.i64.wrap ((m:Int)+2)=(n:Nat):=by rw[show (m:Int)+2=(n:Nat) by omega];exact iw_ _ (by omega)
 have N7:IntKind.i64.wrap ((P:Int)-k)=(t:Nat):=by rw[show (P:Int)-k=(t:Nat) by omega];exact iw_ _ (by omega)
 have hd:Int.tdiv (t:Int) 64=(i:Nat):=by rw[Int.tdiv_eq_ediv_of_nonneg (by omega)];omega
 have oC:(t:Int)/64=(i:Nat):=by omega
 have hr:Int.tmod (t:Int) 64=(r:Nat):=by rw[Int.tmod_eq_emod_of_nonneg (by omega)];omega
 have FT:(t:Int)%64=(r:Nat):=by omega
 have Cs:r<64:=by omega
 have hi:i+1<n:=by omega
 have gO:=Zz5 p t n hp (by omega);have FS:=Zz4 p t n hp;have gh:=Zqb p t n;unfold Qcx at gO FS gh
 dsimp only at gO FS gh
 rw[hi0,Ca] at gO FS gh;have Iv:(w.alloc (.cells (Zu (List.replicate n 0)).toArray 204)).cell? ⟨w.heap.size,i,none⟩=some (.int .u64 (0:Int)):=by
  obtain⟨g,hg,Fn,hg2,hg3,hg4,hg5⟩:=gA.o.open (by simp;omega);obtain rfl:w.heap.size=g:=by simpa using hg
  have:=hg4 i (by simp;omega)
  rw[List.getD_eq_getElem?_getD,List.getElem?_replicate,if_pos (by omega)] at this;exact this
 have Lp:∀ j,(w.alloc (.cells (Zu (List.replicate n 0)).toArray 204)).frozen? ⟨w.heap.size,j,none⟩=false:=by
  obtain⟨g,hg,Fn,hg2,hg3,hg4,hg5⟩:=gA.o.open (by simp;omega);obtain rfl:w.heap.size=g:=by simpa using hg
  exact hg5
 generalize w.alloc (.cells (Zu (List.replicate n 0)).toArray 204)=w1 at *;have DI:bits .or .u64 (0:Int) (IntKind.u64.wrap ((p:Int)*2^r))=((p*2^r%18446744073709551616:Nat):Int):=by
  have e2:IntKind.u64.wrap ((p:Int)*2^r)=((p*2^r%18446744073709551616:Nat):Int):=by
   rw[IntKind.wrap_u64,Int.natCast_emod,Int.natCast_mul,Int.natCast_pow];rfl
  rw[e2];exact Zf2 _ (Nat.mod_lt _ (by decide))
 obtain⟨x,hx⟩:∃ x,p*2^r%18446744073709551616=x:=⟨_,rfl⟩;rw[hx] at DI gO FS gh;have lV:=Lp i;have NR:IntKind.u64.wrap (p:Int)=(p:Int):=IntWalk.u64_in _ (by omega);rw[ht];go_enter Tryz.func292,Tryz.ntmps292;go_wp2_with fail;have bD:=hd_ (gA.o.store i x);have Fk:=hd_ (Hb.o.setCell (p:=⟨w.heap.size,i,none⟩) nr_ (.int .u64 (x:Nat)));have q1:=NW.cell Iv;have gj:Nonempty (NW w1):=⟨⟨w1,Below.refl _ _⟩⟩;have I:Hid (Bw_ w1 w1.drew):=(Below.refl _ _).drew;refine wn_ 12 [(2,0),(2,1),(2,2),(2,3),(1,4),(2,5),(2,6),(2,7),(2,8),(2,9),(2,10),(2,11),(0,12)] I ?_;iterate 4 (refine wa_ rfl ?_;go_big_quiet_step (fail);refine wq_ ?_)
 refine wr_ rfl ?_;go_big_quiet_step (fail);refine wq_ ?_;iterate 7 (refine wa_ rfl ?_;go_big_quiet_step (fail);refine wq_ ?_)
 iterate 1 (refine wm_ rfl ?_;go_wp2_with fail)
 simp only[RP.walkR];have CO:Hid (Vh (w1.setCell ⟨w.heap.size,i,none⟩ (.int .u64 (x:Nat))).drew w.heap.size (some ⟨w.heap.size,0,none⟩) n ((List.replicate n 0).set i x)):=bD.o.below (Qj _ 1) nr_;have GC:Hid (Bw_ w (w1.setCell ⟨w.heap.size,i,none⟩ (.int .u64 (x:Nat))).drew):=Qb Fk.o 1;clear bD Fk I gj q1 Iv lV DI gA Hb;generalize (w1.setCell ⟨w.heap.size,i,none⟩ (.int .u64 (x:Nat))).drew=w2 at *
 by_cases h0:0<r
 ·have j7:(0:Int)<r:=by omega
  have Ln:IntKind.i64.wrap (64-(r:Int))=((64-r:Nat):Int):=by rw[show (64:Int)-r=((64-r:Nat):Int) by omega];exact iw_ _ (by omega)
  have CZ:IntKind.i64.wrap ((i:Int)+1)=((i+1:Nat):Int):=by rw[<- Int.natCast_succ];exact iw_ _ (by omega)
  have Af:((List.replicate n 0).set i x).length=n:=by simp
  have Lt:w2.cell? ⟨w.heap.size,i+1,none⟩=some (.int .u64 (0:Int)):=by
   obtain⟨g,hg,Fn,hg2,hg3,hg4,hg5⟩:=CO.o.open (by simp;omega);obtain rfl:w.heap.size=g:=by simpa using hg
   have:=hg4 (i+1) (by simp;omega)
   rw[List.getD_eq_getElem?_getD,List.getElem?_set_ne (by omega),List.getElem?_replicate,if_pos (by omega)] at this;exact this
  have nG:w2.frozen? ⟨w.heap.size,i+1,none⟩=false:=by
   obtain⟨g,hg,Fn,hg2,hg3,hg4,hg5⟩:=CO.o.open (by simp;omega);obtain rfl:w.heap.size=g:=by simpa using hg
   exact hg5 _
  obtain⟨y,hy⟩:∃ y,p/2^(64-r)=y:=⟨_,rfl⟩;have NO:(p:Int)/2^(64-r)=(y:Nat):=by rw[<- hy,Int.natCast_ediv,Int.natCast_pow];rfl
  have IZ:y<18446744073709551616:=by rw[<- hy];have:=Nat.div_le_self p (2^(64-r));omega
  have jr:=Zf2 y IZ;rw[if_pos h0,hy] at gO FS gh;have HV:=hd_ gO;have HW:=hd_ FS;have HL:=hd_ gh;have mR:=hd_ (CO.o.store (i+1) y);have fg:=hd_ (GC.o.setCell (p:=⟨w.heap.size,i+1,none⟩) nr_ (.int .u64 (y:Nat)));have q1:=NW.cell Lt;have gj:Nonempty (NW w2):=⟨⟨w2,Below.refl _ _⟩⟩;have I:Hid (Bw_ w2 w2.drew):=(Below.refl _ _).drew;clear gO FS gh hy CO GC;go_wp2_with fail;refine wn_ 14 [(2,0),(2,1),(2,2),(2,3),(2,4),(1,5),(2,6),(2,7),(2,8),(2,9),(2,10),(2,11),(2,12),(2,13),(0,14)] I ?_;iterate 5 (refine wa_ rfl ?_;go_big_quiet_step (fail);refine wq_ ?_)
  refine wr_ rfl ?_;go_big_quiet_step (fail);refine wq_ ?_;iterate 8 (refine wa_ rfl ?_;go_big_quiet_step (fail);refine wq_ ?_)
  iterate 1 (refine wm_ rfl ?_;go_wp2_with fail)
  simp only[RP.walkR];have BK:Hid (Vh (w2.setCell ⟨w.heap.size,i+1,none⟩ (.int .u64 (y:Nat))).drew w.heap.size (some ⟨w.heap.size,0,none⟩) n (((List.replicate n 0).set i x).set (i+1) y)):=mR.o.below (Qj _ 1) nr_;have ff:Hid (Bw_ w (w2.setCell ⟨w.heap.size,i+1,none⟩ (.int .u64 (y:Nat))).drew):=Qb fg.o 1;clear mR fg I gj q1 Lt nG jr;generalize (w2.setCell ⟨w.heap.size,i+1,none⟩ (.int .u64 (y:Nat))).drew=w3 at *;generalize ((List.replicate n 0).set i x).set (i+1) y=Ls at *;have HC:=Ze7 w3 (some ⟨w.heap.size,0,none⟩) n Ls BK.o.reads (by rw[HL.o];omega) (by rw[HL.o];omega);rw[HL.o] at HC;have iQ:=hd_ HC;clear HC;go_wp2_with fail;refine cm_ iQ.o ?_;rintro e w4 ⟨g,d,rfl,ho,hb⟩;have O1:=hd_ (BK.o.below hb nr_);have O2:=hd_ (ho.mono ff.o.size);have B5:=bt_ ff hb;have Ff:=hd_ B5.o.size;clear ho hb iQ BK ff;go_wp2_with fail;go_ret;refine⟨w4.heap.size,rfl,⟨_,_,Ls,_,_,Ls,⟨?_,O1.o.below ((Below.refl _ _).alloc nr_ _) nr_,O2.o.below ((Below.refl _ _).alloc nr_ _) nr_,HW.o,HW.o⟩,Ff.o,by rw[HL.o];omega,by rw[HL.o];omega,HV.o,HV.o⟩,B5.o.alloc Ff.o _⟩;have:=heap_alloc_new w4 (.cells #[.slice (some ⟨w.heap.size,0,none⟩) n n,.slice (some ⟨g,0,none⟩) n d,.int .i64 P] 375)
  rw[HL.o];exact this
 ·have j7:¬ (0:Int)<r:=by omega
  rw[if_neg h0] at gO FS gh;have HV:=hd_ gO;have HW:=hd_ FS;have HL:=hd_ gh;have BK:=CO;have ff:=GC;clear gO FS gh CO GC;generalize w2=w3 at *;generalize (List.replicate n 0).set i x=Ls at *;have HC:=Ze7 w3 (some ⟨w.heap.size,0,none⟩) n Ls BK.o.reads (by rw[HL.o];omega) (by rw[HL.o];omega);rw[HL.o] at HC;have iQ:=hd_ HC;clear HC;go_wp2_with fail;refine cm_ iQ.o ?_;rintro e w4 ⟨g,d,rfl,ho,hb⟩;have O1:=hd_ (BK.o.below hb nr_);have O2:=hd_ (ho.mono ff.o.size);have B5:=bt_ ff hb;have Ff:=hd_ B5.o.size;clear ho hb iQ BK ff;go_wp2_with fail;go_ret;refine⟨w4.heap.size,rfl,⟨_,_,Ls,_,_,Ls,⟨?_,O1.o.below ((Below.refl _ _).alloc nr_ _) nr_,O2.o.below ((Below.refl _ _).alloc nr_ _) nr_,HW.o,HW.o⟩,Ff.o,by rw[HL.o];omega,by rw[HL.o];omega,HV.o,HV.o⟩,B5.o.alloc Ff.o _⟩;have:=heap_alloc_new w4 (.cells #[.slice (some ⟨w.heap.size,0,none⟩) n n,.slice (some ⟨g,0,none⟩) n d,.int .i64 P] 375)
  rw[HL.o];exact this
def Qa9 (w w':World) (B R P:Nat) (st:Option (Bool×Nat×Nat)) (e:Ending):Prop :=
 w.grownBy w' (some R)/\match st with
  | none=>e = .returned (.tuple #[.bool false,.bool false])
  | some x=>e = .returned (.tuple #[.bool x.1,.bool true])/\Zxt w' B R P x.2.1 x.2.2
theorem Za5{w w':World}{R:Nat}(h:Bw_ w w'):w.grownBy w' (some R):=⟨h.os,h.tape,h.output,h.size,fun k hk _=>h.block k hk⟩
theorem Zm7(W:World)(R j:Nat)(v:Value):W.grownBy (W.setCell ⟨R,j,none⟩ v) (some R) :=
 ⟨rfl,rfl,rfl,(KeepsWalks.setCell W _ v).size,fun k _ hk=>Below.heap_setCell _ _ _ k (fun e=>hk (by rw[e]))⟩
theorem Vh.grown{w w':World}{B R:Nat}{a:OA_}{c:Nat}{l:List Nat}(h:Vh w B a c l)(hg:w.grownBy w' (some R))(hR:R<B):Vh w' B a c l:=by
 refine World.ownsRow.kept h hg ?_;cases hv:(Value.slice a l.length c).ownBlock with
 | none=>simp
 | some k =>
  have:=(World.ownsRow.lt h k hv).1
  exact .inr (fun e=>by cases e;omega)
theorem Zuo{w:World}{R:Nat}{x y z x' y':Value}{t:TypeId}(h:w.heap[R]?=some (.cells #[x,y,z] t (0,0))):
  ((w.setCell ⟨R,0,none⟩ x').setCell ⟨R,1,none⟩ y').heap[R]?=some (.cells #[x',y',z] t (0,0)):=by
 have gd:=lt_of_block h;have h':w.heap[R] = .cells #[x,y,z] t (0,0):=by simpa [Array.getElem?_eq_getElem gd] using h
 have e1:(w.setCell ⟨R,0,none⟩ x').heap[R]?=some (.cells #[x',y,z] t (0,0)):=by
  show (w.heap.modify R _)[R]?=_
  rw[Array.getElem?_eq_getElem (by simpa using gd),Array.getElem_modify_self,h'];rfl
 have Gf:=lt_of_block e1;have Ei:(w.setCell ⟨R,0,none⟩ x').heap[R] = .cells #[x',y,z] t (0,0):=by simpa [Array.getElem?_eq_getElem Gf] using e1
 show ((w.setCell ⟨R,0,none⟩ x').heap.modify R _)[R]?=_
 rw[Array.getElem?_eq_getElem (by simpa using Gf),Array.getElem_modify_self,Ei];rfl
theorem MaS.put{w w0:World}{B R P C:Nat}{a1 a2 b1 b2:OA_}{c1 c2 d1 d2:Nat}{L H L' H':List Nat}(h:MaS w B R P a1 c1 L a2 c2 H)(hC:R<C)(o1:Vh w C b1 d1 L')(o2:Vh w C b2 d2 H')(p1:Wds L')(p2:Wds H')(hg:w0.grownBy w (some R)):
  MaS ((w.setCell ⟨R,0,none⟩ (.slice b1 L'.length d1)).setCell ⟨R,1,none⟩ (.slice b2 H'.length d2)) C R P b1 d1 L' b2 d2 H'/\w0.grownBy ((w.setCell ⟨R,0,none⟩ (.slice b1 L'.length d1)).setCell ⟨R,1,none⟩ (.slice b2 H'.length d2)) (some R):=by
 have g2:=Qo (Zm7 w R 0 (.slice b1 L'.length d1)) (Zm7 _ R 1 (.slice b2 H'.length d2));exact⟨⟨Zuo h.ob,o1.grown g2 hC,o2.grown g2 hC,p1,p2⟩,Qo hg g2⟩
theorem MaS.mono{w:World}{B C R P:Nat}{a1 a2:OA_}{c1 c2:Nat}{L H:List Nat}(h:MaS w C R P a1 c1 L a2 c2 H)(hB:B<=C):MaS w B R P a1 c1 L a2 c2 H :=
 ⟨h.ob,h.o1.mono hB,h.o2.mono hB,h.p1,h.p2⟩
theorem Qcw(w:World)(B R P lo hi:Nat)(M:Zxt w B R P lo hi)(hP:P<=2000)(hB:B<=w.heap.size)(fO:lo<=hi)
  (dJ:∀ x,Zf4 (2^P) lo hi=some x->x.2.1<18446744073709551616^(P/64+2)/\x.2.2<18446744073709551616^(P/64+2)) :
  Calls Tryz.prog 293 #[.pointer (some ⟨R,0,none⟩)] w fun e w'=>Qa9 w w' B R P (Zf4 (2^P) lo hi) e:=by
 obtain⟨a1,c1,L,a2,c2,H,S,Ir,l1,l2,v1,v2⟩:=M;obtain⟨wo,hwo⟩:∃ wo,P/64=wo:=⟨_,rfl⟩;obtain⟨r,hr⟩:∃ r,P%64=r:=⟨_,rfl⟩;have ar:P=64*wo+r:=by omega
 have Cs:r<64:=by omega
 have an:R<w.heap.size:=(Array.getElem?_eq_some_iff.1 S.ob).1;obtain⟨k0,k1,k2,kf⟩:=Qh S.ob;rw[l1] at k0;rw[l2] at k1;rw[hwo] at k0 k1 l1 l2 dJ;have HP:=hd_ ar;have Mm:wo<=40:=by omega
 have IC:=hd_ hwo;have mN:Hid (∀ W,Bw_ w W->Calls Tryz.prog 306 #[.slice a1 (wo+2) c1] W fun e w'=>∃ a c LL,e = .returned (.slice a (2*(wo+2)+1) c)/\LL.length=2*(wo+2)+1/\Vh w' W.heap.size a c LL/\Wds LL/\vW LL=lo*lo/\Bw_ W w'):=fun W hW=>by
  have:=Ziy W a1 c1 L (S.o1.reads.below hW nr_) S.p1 (by omega)
  rw[l1,v1] at this;exact this
 have mM:Hid (∀ W,Bw_ w W->Calls Tryz.prog 306 #[.slice a2 (wo+2) c2] W fun e w'=>∃ a c LL,e = .returned (.slice a (2*(wo+2)+1) c)/\LL.length=2*(wo+2)+1/\Vh w' W.heap.size a c LL/\Wds LL/\vW LL=hi*hi/\Bw_ W w'):=fun W hW=>by
  have:=Ziy W a2 c2 H (S.o2.reads.below hW nr_) S.p2 (by omega)
  rw[l2,v2] at this;exact this
 have HS:=hd_ S;have CQ:=hd_ dJ
 -- the shifts
 have mI:Hid (∀ W a c (LL:List Nat) v,Qq W a LL->Wds LL->LL.length=2*(wo+2)+1->vW LL=v->Calls Tryz.prog 307 #[.slice a (2*(wo+2)+1) c,.int .i64 P] W fun e w'=>∃ a c S,e = .returned (.slice a (wo+5) c)/\S.length=wo+5/\Vh w' W.heap.size a c S/\Wds S/\vW S=v/2^P/\Bw_ W w'):=fun W a c LL v h1 h2 h3 h4=>by
  have:=Zg6 W a c LL P wo r ar Cs h1 h2 (by omega) (by omega)
  rw[h3,show 2*(wo+2)+1-wo=wo+5 by omega] at this;refine this.mono ?_;rintro e w' ⟨a',c',rfl,ho,hb⟩;refine⟨a',c',_,rfl,Vo ..,ho,Zod h2 Cs,?_,hb⟩;rw[Zoe h2 Cs (by omega),h4,<- ar]
 have mS:Hid (∀ W a c (LL:List Nat) k v,Qq W a LL->Wds LL->LL.length=k->0<k->k<=1000->vW LL=v->Calls Tryz.prog 308 #[.slice a k c] W fun e w'=>∃ a c S,e = .returned (.slice a (k+1) c)/\S.length=k+1/\Vh w' W.heap.size a c S/\Wds S/\vW S=v+1/\Bw_ W w'):=fun W a c LL k v h1 h2 h3 h0 hk h4=>by
  have:=Zyp W a c LL h1 h2 (by omega) (by omega)
  rw[h3,h4] at this;exact this
 have JY:Hid (∀ W a c (LL:List Nat) k v,Qq W a LL->Wds LL->LL.length=k->wo+2<k->k<=1000->vW LL=v->Kc Tryz.prog 309 #[.slice a k c,.int .i64 ((P:Int)+1)] W (.bool (decide (2*2^P<=v)))):=fun W a c LL k v h1 h2 h3 h0 hk h4=>by
  have:=Zok W a c LL (P+1) ((P+1)/64) ((P+1)%64) (by omega) (Nat.mod_lt _ (by decide)) h1 h2 (by omega) (by omega)
  rw[h3,h4,Nat.pow_succ,Nat.mul_comm] at this;exact this
 have Lc:IntKind.i64.wrap ((P:Int)+1)=(P:Int)+1:=iw_ _ (by omega);have mJ:Hid (∀ W a c (LL:List Nat) k v,Qq W a LL->Wds LL->LL.length=k->0<k->k<=1000->vW LL=v->Calls Tryz.prog 307 #[.slice a k c,.int .i64 1] W fun e w'=>∃ a c S,e = .returned (.slice a k c)/\S.length=k/\Vh w' W.heap.size a c S/\Wds S/\vW S=v/2/\Bw_ W w'):=fun W a c LL k v h1 h2 h3 h0 hk h4=>by
  have:=Zg6 W a c LL 1 0 1 rfl (by decide) h1 h2 (by omega) (by omega)
  rw[h3,Nat.sub_zero] at this;refine this.mono ?_;rintro e w' ⟨a',c',rfl,ho,hb⟩;refine⟨a',c',_,rfl,Vo ..,ho,Zod h2 (by decide),?_,hb⟩;rw[Zoe h2 (by decide) (by omega),h4]
 have hq:Int.tdiv (P:Int) 64=(wo:Nat):=by rw[Int.tdiv_eq_ediv_of_nonneg (by omega)];omega
 have jq:(P:Int)/64=(wo:Nat):=by omega
 have Ct:IntKind.i64.wrap ((wo:Int)+2)=(wo:Int)+2:=iw_ _ (by omega);have Ng:Hid (lo*lo/2^P<=hi*hi/2^P+1):=Nat.le_succ_of_le (Nat.div_le_div_right (Nat.mul_le_mul fO fO));have Gv:Hid (Zf4 (2^P) lo hi=if 2*2^P<=lo*lo/2^P then some (true,lo*lo/2^P/2,(hi*hi/2^P+1)/2+1) else if 2*2^P<=hi*hi/2^P+1 then none else some (false,lo*lo/2^P,hi*hi/2^P+1)):=rfl;generalize Zf4 (2^P) lo hi=st at *;clear S dJ l1 l2 v1 v2 ar hwo hr;have q0:=NW.cell k0;have q1:=NW.cell k1;have q2:=NW.cell k2;have gj:Nonempty (NW w):=⟨⟨w,Below.refl _ _⟩⟩;have I:Hid (Bw_ w w.drew):=(Below.refl _ _).drew;go_enter Tryz.func293,Tryz.ntmps293;go_wp2_with fail;refine wn_ 25 [(2,0),(2,1),(2,2),(2,3),(2,4),(1,5),(2,7),(2,8),(2,9),(1,10),(2,12),(2,13),(2,14),(1,15),(2,17),(2,18),(2,19),(1,20),(0,6),(0,11),(0,16),(0,21),(0,22),(2,23),(2,24),(0,25),(2,26),(2,27),(0,28)] I ?_;iterate 5 (refine wa_ rfl ?_;go_big_quiet_step (fail);refine wq_ ?_)
 refine wr_ rfl ?_;go_big_quiet_step (fail);refine wq_ ?_;iterate 3 (refine wa_ rfl ?_;go_big_quiet_step (fail);refine wq_ ?_)
 refine wr_ rfl ?_;go_big_quiet_step (fail);refine wq_ ?_;iterate 3 (refine wa_ rfl ?_;go_big_quiet_step (fail);refine wq_ ?_)
 refine wr_ rfl ?_;go_big_quiet_step (fail);refine wq_ ?_;iterate 3 (refine wa_ rfl ?_;go_big_quiet_step (fail);refine wq_ ?_)
 refine wr_ rfl ?_;go_big_quiet_step (fail);refine wq_ ?_;clear gj q0 q1 q2 k0 k1 k2;refine wm_ rfl ?_;go_wp2_with fail;refine cm_ (mN.o _ I.o) ?_;rintro e w1 ⟨b1,d1,L1,rfl,hl,ho,hp,hv,hb⟩;have I1:Hid (Bw_ w w1):=I.o.trans (hb.mono I.o.size);have J9:=hd_ (And.intro hl hv);have O1:=hd_ ho;have P1:=hd_ hp;clear hl ho hp hv hb mN I;go_wp2_with fail;refine⟨⟨⟨_,I1.o⟩,rfl⟩,?_⟩;refine wm_ rfl ?_;go_wp2_with fail;refine cm_ (mI.o _ _ _ L1 (lo*lo) O1.o.reads P1.o J9.o.1 J9.o.2) ?_;rintro e w2 ⟨b2,d2,L2,rfl,hl,ho,hp,hv,hb⟩;have I2:Hid (Bw_ w w2):=I1.o.trans (hb.mono I1.o.size);have dW:=hd_ (And.intro hl hv);have O2:=hd_ (ho.mono I1.o.size);have P2:=hd_ hp;clear hl ho hp hv hb J9 O1 P1 I1;go_wp2_with fail;refine⟨⟨⟨_,I2.o⟩,rfl⟩,?_⟩;refine wm_ rfl ?_;go_wp2_with fail;refine cm_ (mM.o _ I2.o) ?_;rintro e w3 ⟨b3,d3,L3,rfl,hl,ho,hp,hv,hb⟩;have I3:Hid (Bw_ w w3):=I2.o.trans (hb.mono I2.o.size);have AI:=hd_ (O2.o.below hb nr_);have J8:=hd_ (And.intro hl hv);have O3:=hd_ ho;have P3:=hd_ hp;clear hl ho hp hv hb mM I2 O2;go_wp2_with fail;refine⟨⟨⟨_,I3.o⟩,rfl⟩,?_⟩;refine wm_ rfl ?_;go_wp2_with fail;refine cm_ (mI.o _ _ _ L3 (hi*hi) O3.o.reads P3.o J8.o.1 J8.o.2) ?_;rintro e w4 ⟨b4,d4,L4,rfl,hl,ho,hp,hv,hb⟩;have I4:Hid (Bw_ w w4):=I3.o.trans (hb.mono I3.o.size);have O2:=hd_ (AI.o.below hb nr_);have J7:=hd_ (And.intro hl hv);have O4:=hd_ ho;have P4:=hd_ hp;clear hl ho hp hv hb J8 O3 P3 I3 AI;go_wp2_with fail;refine⟨⟨⟨_,I4.o⟩,rfl⟩,?_⟩;refine wm_ rfl ?_;go_wp2_with fail;refine cm_ (mS.o _ _ _ L4 (wo+5) (hi*hi/2^P) O4.o.reads P4.o J7.o.1 (by omega) (by omega) J7.o.2) ?_;rintro e w5 ⟨b5,d5,L5,rfl,hl,ho,hp,hv,hb⟩;have I5:Hid (Bw_ w w5):=I4.o.trans (hb.mono I4.o.size);have AI:=hd_ (O2.o.below hb nr_);have dV:=hd_ (And.intro hl hv);have O5:=hd_ (ho.mono I4.o.size);have P5:=hd_ hp;have JW:=hd_ (HS.o.below I5.o);obtain⟨k0,k1,k2,kf⟩:=Qh JW.o.ob;clear hl ho hp hv hb J7 O4 P4 I4 O2;go_wp2_with fail;refine⟨⟨⟨_,I5.o⟩,rfl⟩,?_⟩;iterate 2 (refine wa_ rfl ?_;go_big_quiet_step (fail);refine wq_ ?_)
 have Ao:=kf 0;have bU:=kf 1;refine wm_ rfl ?_;go_wp2_with fail;iterate 2 (refine wa_ rfl ?_;go_big_quiet_step (fail);refine wq_ ?_)
 refine wm_ rfl ?_;go_wp2_with fail;simp only[RP.walkR];have GW:=JW.o.put an AI.o O5.o P2.o P5.o (Za5 I5.o);rw[dW.o.1,dV.o.1] at GW;have jU:=GW.1;have G6:=hd_ GW.2;obtain⟨k0,k1,k2,kf⟩:=Qh jU.ob;rw[dW.o.1] at k0;rw[dV.o.1] at k1;have IM:=hd_ jU;clear GW jU JW AI O5 Ao bU I5 HS;generalize (w5.setCell ⟨R,0,none⟩ (.slice b2 (wo+5) d2)).setCell ⟨R,1,none⟩ (.slice b5 (wo+5+1) d5)=w6 at *;have q0:=NW.cell k0;have q1:=NW.cell k1;have q2:=NW.cell k2;have gj:Nonempty (NW w6):=⟨⟨w6,Below.refl _ _⟩⟩;have I:Hid (Bw_ w6 w6.drew):=(Below.refl _ _).drew;go_wp2_with fail;refine wn_ 19 [(2,0),(2,1),(2,2),(1,3),(2,4),(2,5),(2,6),(1,7),(2,8),(2,10),(2,11),(2,12),(1,13),(2,14),(2,15),(2,16),(1,17),(2,18),(0,9),(0,19),(2,20),(2,21)] I ?_;iterate 3 (refine wa_ rfl ?_;go_big_quiet_step (fail);refine wq_ ?_)
 refine wr_ rfl ?_;go_big_quiet_step (fail);refine wq_ ?_;iterate 3 (refine wa_ rfl ?_;go_big_quiet_step (fail);refine wq_ ?_)
 refine wr_ rfl ?_;go_big_quiet_step (fail);refine wq_ ?_;iterate 4 (refine wa_ rfl ?_;go_big_quiet_step (fail);refine wq_ ?_)
 refine wr_ rfl ?_;go_big_quiet_step (fail);refine wq_ ?_;iterate 3 (refine wa_ rfl ?_;go_big_quiet_step (fail);refine wq_ ?_)
 refine wr_ rfl ?_;go_big_quiet_step (fail);refine wq_ ?_;refine wa_ rfl ?_;go_big_quiet_step (fail);refine wq_ ?_;clear gj q0 q1 q2 k0 k1 k2;refine wm_ rfl ?_;go_wp2_with fail;refine cm_ (JY.o _ _ _ L2 (wo+5) (lo*lo/2^P) ((IM.o.o1.reads.below I.o nr_)) P2.o dW.o.1 (by omega) (by omega) dW.o.2) ?_;rintro e w7 ⟨rfl,hb⟩;have I7:Hid (Bw_ w6 w7):=I.o.trans (hb.mono I.o.size);clear hb I;go_wp2_with fail;refine⟨⟨⟨_,I7.o⟩,rfl⟩,?_⟩;refine wm_ rfl ?_;go_wp2_with fail;refine cm_ (JY.o _ _ _ L5 (wo+5+1) (hi*hi/2^P+1) ((IM.o.o2.reads.below I7.o nr_)) P5.o dV.o.1 (by omega) (by omega) dV.o.2) ?_;rintro e w8 ⟨rfl,hb⟩;have I8:Hid (Bw_ w6 w8):=I7.o.trans (hb.mono I7.o.size);clear hb I7 JY;go_wp2_with fail;iterate 2 (refine wa_ rfl ?_;go_big_quiet_step (fail);refine wq_ ?_)
 simp only[RP.walkR];have E5:=hd_ (IM.o.below I8.o);have G8:=hd_ (Qo G6.o (Za5 (R:=R) I8.o));clear IM G6 I8;generalize lo*lo/2^P=M at *;generalize hi*hi/2^P+1=G at *;generalize 2*2^P=u2 at *
 by_cases cA:u2<=M
 ·have cB:u2<=G:=Nat.le_trans cA Ng.o;have Fm:st=some (true,M/2,G/2+1):=by rw[Gv.o,if_pos cA]
  subst Fm;rw[decide_eq_true cA,decide_eq_true cB];obtain⟨k0,k1,k2,kf⟩:=Qh E5.o.ob;rw[dW.o.1] at k0;rw[dV.o.1] at k1;have q0:=NW.cell k0;have q1:=NW.cell k1;have gj:Nonempty (NW w8):=⟨⟨w8,Below.refl _ _⟩⟩;have I:Hid (Bw_ w8 w8.drew):=(Below.refl _ _).drew;clear k2 kf;go_wp2_with fail;refine wn_ 15 [(2,0),(2,1),(2,2),(2,3),(2,4),(1,5),(2,7),(2,8),(2,9),(1,10),(0,6),(0,11),(0,12),(2,13),(2,14),(0,15),(2,16),(2,17),(0,18)] I ?_;iterate 5 (refine wa_ rfl ?_;go_big_quiet_step (fail);refine wq_ ?_)
  refine wr_ rfl ?_;go_big_quiet_step (fail);refine wq_ ?_;iterate 3 (refine wa_ rfl ?_;go_big_quiet_step (fail);refine wq_ ?_)
  refine wr_ rfl ?_;go_big_quiet_step (fail);refine wq_ ?_;clear gj q0 q1 k0 k1;refine wm_ rfl ?_;go_wp2_with fail;refine cm_ (mJ.o _ _ _ L2 (wo+5) M (E5.o.o1.reads.below I.o nr_) P2.o dW.o.1 (by omega) (by omega) dW.o.2) ?_;rintro e w9 ⟨b6,d6,L6,rfl,hl,ho,hp,hv,hb⟩;have I9:Hid (Bw_ w8 w9):=I.o.trans (hb.mono I.o.size);have BP:=hd_ (And.intro hl hv);have O6:=hd_ (ho.mono I.o.size);have P6:=hd_ hp;clear hl ho hp hv hb I;go_wp2_with fail;refine⟨⟨⟨_,I9.o⟩,rfl⟩,?_⟩;refine wm_ rfl ?_;go_wp2_with fail;refine cm_ (mJ.o _ _ _ L5 (wo+5+1) G (E5.o.o2.reads.below I9.o nr_) P5.o dV.o.1 (by omega) (by omega) dV.o.2) ?_;rintro e w10 ⟨b7,d7,L7,rfl,hl,ho,hp,hv,hb⟩;have AJ:Hid (Bw_ w8 w10):=I9.o.trans (hb.mono I9.o.size);have LF:=hd_ (O6.o.below hb nr_);have J6:=hd_ (And.intro hl hv);have O7:=hd_ ho;have P7:=hd_ hp;clear hl ho hp hv hb I9 O6;go_wp2_with fail;refine⟨⟨⟨_,AJ.o⟩,rfl⟩,?_⟩;refine wm_ rfl ?_;go_wp2_with fail;refine cm_ (mS.o _ _ _ L7 (wo+5+1) (G/2) O7.o.reads P7.o J6.o.1 (by omega) (by omega) J6.o.2) ?_;rintro e w11 ⟨b8,d8,L8,rfl,hl,ho,hp,hv,hb⟩;have Ix:Hid (Bw_ w8 w11):=AJ.o.trans (hb.mono AJ.o.size);have O6:=hd_ (LF.o.below hb nr_);have BO:=hd_ (And.intro hl hv);have O8:=hd_ (ho.mono AJ.o.size);have P8:=hd_ hp;have BI:=hd_ (E5.o.below Ix.o);obtain⟨k0,k1,k2,kf⟩:=Qh BI.o.ob;have Ao:=kf 0;have bU:=kf 1;have Lb:=hd_ (Nat.lt_of_lt_of_le an G8.o.size);clear hl ho hp hv hb J6 O7 P7 AJ LF E5;go_wp2_with fail;refine⟨⟨⟨_,Ix.o⟩,rfl⟩,?_⟩;iterate 2 (refine wa_ rfl ?_;go_big_quiet_step (fail);refine wq_ ?_)
  refine wm_ rfl ?_;go_wp2_with fail;iterate 2 (refine wa_ rfl ?_;go_big_quiet_step (fail);refine wq_ ?_)
  refine wm_ rfl ?_;go_wp2_with fail;simp only[RP.walkR];have GW:=BI.o.put Lb.o O6.o O8.o P6.o P8.o (Qo G8.o (Za5 (R:=R) Ix.o));rw[BP.o.1,BO.o.1] at GW;have FY:=hd_ GW.1;have NE:=hd_ GW.2;have NC:=hd_ G8.o.size;clear GW BI O6 O8 Ao bU Ix k0 k1 k2 kf G8;generalize (w11.setCell ⟨R,0,none⟩ (.slice b6 (wo+5) d6)).setCell ⟨R,1,none⟩ (.slice b8 (wo+5+1+1) d8)=w12 at *;obtain⟨k0,k1,k2,kf⟩:=Qh FY.o.ob;rw[BP.o.1] at k0;rw[BO.o.1] at k1;have Ar:wo+2<=d6:=by have:=FY.o.o1.cap;rw[BP.o.1] at this;omega
  have Aq:wo+2<=d8:=by have:=FY.o.o2.cap;rw[BO.o.1] at this;omega
  have O1:=FY.o.o1.cut (wo+2) (by rw[BP.o.1];omega);have O2:=FY.o.o2.cut (wo+2) (by rw[BO.o.1];omega);have W1:=FY.o.p1.take (wo+2);have W2:=FY.o.p2.take (wo+2);have N1:(L6.take (wo+2)).length=wo+2:=by rw[List.length_take,BP.o.1];omega
  have N2:(L8.take (wo+2)).length=wo+2:=by rw[List.length_take,BO.o.1];omega
  have V1:vW (L6.take (wo+2))=M/2:=by rw[Zj5 FY.o.p1 (by rw[BP.o.1];omega),BP.o.2];exact Nat.mod_eq_of_lt (CQ.o _ rfl).1
  have V2:vW (L8.take (wo+2))=G/2+1:=by rw[Zj5 FY.o.p2 (by rw[BO.o.1];omega),BO.o.2];exact Nat.mod_eq_of_lt (CQ.o _ rfl).2
  have GW:=(FY.o.below (Qj w12 1)).put Lb.o (O1.below (Qj w12 1) nr_) (O2.below (Qj w12 1) nr_) W1 W2 (Qo NE.o (Za5 (R:=R) (Qj w12 1)));rw[N1,N2] at GW;have HF:=hd_ GW;have HV:=hd_ (And.intro V1 V2);have HN:=hd_ (And.intro N1 N2);clear O1 O2 W1 W2 N1 N2 V1 V2 GW;have Ao:(w12.drewN 1).frozen? ⟨R,0,none⟩=false:=kf 0;have bU:(w12.drewN 1).frozen? ⟨R,1,none⟩=false:=kf 1;have q0:=NW.cell k0;have q1:=NW.cell k1;have gj:Nonempty (NW w12):=⟨⟨w12,Below.refl _ _⟩⟩;have I:Hid (Bw_ w12 w12.drew):=(Below.refl _ _).drew;have jx:(wo:Int)+2<=(wo:Int)+5:=by omega
  have Gf:(wo:Int)+2<=(wo:Int)+5+1+1:=by omega
  have Fc:min (5:Int) 2=2:=by decide
  have dY:min ((wo:Int)+5+1+1) ((wo:Int)+2)=(wo:Int)+2:=by omega
  have Mv:((wo:Int)+2).toNat=wo+2:=by omega
  go_wp2_with fail;refine wn_ 28 [(2,0),(2,1),(2,2),(2,3),(2,4),(1,5),(2,6),(2,7),(2,8),(1,9),(2,10),(2,11),(2,12),(2,13),(2,14),(2,15),(2,16),(1,17),(2,18),(2,19),(2,20),(1,21),(2,22),(2,23),(2,24),(2,25),(2,26),(2,27),(0,28),(2,29),(2,30),(0,31)] I ?_;iterate 5 (refine wa_ rfl ?_;go_big_quiet_step (fail);refine wq_ ?_)
  refine wr_ rfl ?_;go_big_quiet_step (fail);refine wq_ ?_;iterate 3 (refine wa_ rfl ?_;go_big_quiet_step (fail);refine wq_ ?_)
  refine wr_ rfl ?_;go_big_quiet_step (fail);refine wq_ ?_;iterate 7 (refine wa_ rfl ?_;go_big_quiet_step (fail);refine wq_ ?_)
  refine wr_ rfl ?_;go_big_quiet_step (fail);refine wq_ ?_;iterate 3 (refine wa_ rfl ?_;go_big_quiet_step (fail);refine wq_ ?_)
  refine wr_ rfl ?_;go_big_quiet_step (fail);refine wq_ ?_;iterate 6 (refine wa_ rfl ?_;go_big_quiet_step (fail);refine wq_ ?_)
  iterate 1 (refine wm_ rfl ?_;go_wp2_with fail)
  iterate 2 (refine wa_ rfl ?_;go_big_quiet_step (fail);refine wq_ ?_)
  iterate 1 (refine wm_ rfl ?_;go_wp2_with fail)
  simp only[RP.walkR];go_wp2_with fail
  go_ret2
  refine⟨HF.o.2,rfl,⟨_,_,_,_,_,_,HF.o.1.mono (Nat.le_trans hB NC.o),Ir,?_,?_,HV.o.1,HV.o.2⟩⟩
  ·rw[IC.o];exact HN.o.1
  ·rw[IC.o];exact HN.o.2
 ·by_cases cB:u2<=G
  ·have Fm:st=none:=by rw[Gv.o,if_neg cA,if_pos cB]
   subst Fm;rw[decide_eq_false cA,decide_eq_true cB];go_wp2_with fail
   go_ret2
   exact⟨G8.o,rfl⟩
  ·have Fm:st=some (false,M,G):=by rw[Gv.o,if_neg cA,if_neg cB]
   subst Fm;rw[decide_eq_false cA,decide_eq_false cB];obtain⟨k0,k1,k2,kf⟩:=Qh E5.o.ob;rw[dW.o.1] at k0;rw[dV.o.1] at k1;have Ar:wo+2<=d2:=by have:=E5.o.o1.cap;rw[dW.o.1] at this;omega
   have Aq:wo+2<=d5:=by have:=E5.o.o2.cap;rw[dV.o.1] at this;omega
   have O1:=E5.o.o1.cut (wo+2) (by rw[dW.o.1];omega);have O2:=E5.o.o2.cut (wo+2) (by rw[dV.o.1];omega);have W1:=E5.o.p1.take (wo+2);have W2:=E5.o.p2.take (wo+2);have N1:(L2.take (wo+2)).length=wo+2:=by rw[List.length_take,dW.o.1];omega
   have N2:(L5.take (wo+2)).length=wo+2:=by rw[List.length_take,dV.o.1];omega
   have V1:vW (L2.take (wo+2))=M:=by rw[Zj5 E5.o.p1 (by rw[dW.o.1];omega),dW.o.2];exact Nat.mod_eq_of_lt (CQ.o _ rfl).1
   have V2:vW (L5.take (wo+2))=G:=by rw[Zj5 E5.o.p2 (by rw[dV.o.1];omega),dV.o.2];exact Nat.mod_eq_of_lt (CQ.o _ rfl).2
   have GW:=(E5.o.below (Qj w8 1)).put an (O1.below (Qj w8 1) nr_) (O2.below (Qj w8 1) nr_) W1 W2 (Qo G8.o (Za5 (R:=R) (Qj w8 1)));rw[N1,N2] at GW;have HF:=hd_ GW;have HV:=hd_ (And.intro V1 V2);have HN:=hd_ (And.intro N1 N2);clear O1 O2 W1 W2 N1 N2 V1 V2 GW;have Ao:(w8.drewN 1).frozen? ⟨R,0,none⟩=false:=kf 0;have bU:(w8.drewN 1).frozen? ⟨R,1,none⟩=false:=kf 1;have q0:=NW.cell k0;have q1:=NW.cell k1;have gj:Nonempty (NW w8):=⟨⟨w8,Below.refl _ _⟩⟩;have I:Hid (Bw_ w8 w8.drew):=(Below.refl _ _).drew;have jx:(wo:Int)+2<=(wo:Int)+5:=by omega
   have Gf:(wo:Int)+2<=(wo:Int)+5+1:=by omega
   have Fc:min (5:Int) 2=2:=by decide
   have dY:min ((wo:Int)+5+1) ((wo:Int)+2)=(wo:Int)+2:=by omega
   have Mv:((wo:Int)+2).toNat=wo+2:=by omega
   go_wp2_with fail;refine wn_ 28 [(2,0),(2,1),(2,2),(2,3),(2,4),(1,5),(2,6),(2,7),(2,8),(1,9),(2,10),(2,11),(2,12),(2,13),(2,14),(2,15),(2,16),(1,17),(2,18),(2,19),(2,20),(1,21),(2,22),(2,23),(2,24),(2,25),(2,26),(2,27),(0,28),(2,29),(2,30),(0,31)] I ?_;iterate 5 (refine wa_ rfl ?_;go_big_quiet_step (fail);refine wq_ ?_)
   refine wr_ rfl ?_;go_big_quiet_step (fail);refine wq_ ?_;iterate 3 (refine wa_ rfl ?_;go_big_quiet_step (fail);refine wq_ ?_)
   refine wr_ rfl ?_;go_big_quiet_step (fail);refine wq_ ?_;iterate 7 (refine wa_ rfl ?_;go_big_quiet_step (fail);refine wq_ ?_)
   refine wr_ rfl ?_;go_big_quiet_step (fail);refine wq_ ?_;iterate 3 (refine wa_ rfl ?_;go_big_quiet_step (fail);refine wq_ ?_)
   refine wr_ rfl ?_;go_big_quiet_step (fail);refine wq_ ?_;iterate 6 (refine wa_ rfl ?_;go_big_quiet_step (fail);refine wq_ ?_)
   iterate 1 (refine wm_ rfl ?_;go_wp2_with fail)
   iterate 2 (refine wa_ rfl ?_;go_big_quiet_step (fail);refine wq_ ?_)
   iterate 1 (refine wm_ rfl ?_;go_wp2_with fail)
   simp only[RP.walkR];go_wp2_with fail
   go_ret2
   refine⟨HF.o.2,rfl,⟨_,_,_,_,_,_,HF.o.1.mono hB,Ir,?_,?_,HV.o.1,HV.o.2⟩⟩
   ·rw[IC.o];exact HN.o.1
   ·rw[IC.o];exact HN.o.2
def Zbw (l:List Bool):List Value:=l.map Value.bool
theorem Zal(l:List Bool):(Zbw l).length=l.length:=by simp[Zbw]
theorem Znv(l m:List Bool):Zbw (l++m)=Zbw l++Zbw m:=by simp[Zbw]
theorem Zh3(l:List Bool)(j:Nat)(h:j<l.length):(Zbw l)[j]?=some (.bool (l.getD j false)):=by
 simp[Zbw,List.getD_eq_getElem?_getD,h]
theorem Qa2:(Tryz.prog.info? 4).map (fun i=>(i.zero,i.size,i.bytes))=some (some (.bool false),1,1):=by kernel_rfl
theorem Qg1:Zba Tryz.prog 315 4 (.bool false) 1 1:=⟨Tryz.underlying315,info_parts Qa2,rfl,by decide⟩
def Zim (w:World) (B:Nat) (a:OA_) (c:Nat) (l:List Bool):Prop:=w.ownsRow B 4 1 (.slice a l.length c) l.length (Zbw l)
structure BoI (w:World) (B:Nat) (a:OA_) (c:Nat) (l:List Bool):Prop where
 own:Zim w B a c l
 fst:∀ k,(Value.slice a l.length c).ownBlock=some k->∃ b,w.cell? ⟨k,0,none⟩=some (.bool b)
theorem BoI.nil(w:World)(B:Nat):BoI w B none 0 []:=⟨World.ownsRow_nil ..,fun k h=>by simp[Value.ownBlock] at h⟩
theorem BoI.of{w:World}{B:Nat}{a:OA_}{c:Nat}{l:List Bool}(h:Zim w B a c l)(h0:0<l.length):BoI w B a c l:=by
 refine⟨h,fun k hk=>?_⟩;obtain⟨g,cap,hv,h1,h2,h3,h4,h5⟩:=Ye h h0;simp only[Value.slice.injEq] at hv;obtain⟨rfl,-,rfl⟩:=hv;have e:g=k:=by simpa [Value.ownBlock] using hk
 subst e;have:=h4 0 (by omega)
 rw[Zh3 l 0 h0] at this;exact⟨_,this⟩
theorem BoI.grown{w w':World}{B R:Nat}{a:OA_}{c:Nat}{l:List Bool}(h:BoI w B a c l)(hg:w.grownBy w' (some R))(hR:∀ b,w.cell? ⟨R,0,none⟩≠some (.bool b)):BoI w' B a c l:=by
 have gm:∀ k,(Value.slice a l.length c).ownBlock=some k->k≠R:=fun k hk e=>by
  obtain⟨b,hb⟩:=h.fst k hk;rw[e] at hb;exact hR b hb
 refine⟨World.ownsRow.kept h.own hg ?_,fun k hk=>?_⟩
 ·cases hv:(Value.slice a l.length c).ownBlock with
  | none=>simp
  | some k=>exact .inr fun e=>by cases e;exact gm _ hv rfl
 ·obtain⟨b,hb⟩:=h.fst k hk;refine⟨b,?_⟩;have hs:=block_lt_of_cell hb;have Dd:=hg.block k hs (fun e=>gm k hk (by cases e;rfl));unfold World.cell? at hb ⊢;simp only at hb Dd ⊢;rw[Dd];exact hb
theorem Zxt.notBool{w:World}{B R P lo hi:Nat}(h:Zxt w B R P lo hi):∀ b,w.cell? ⟨R,0,none⟩≠some (.bool b):=fun b hb=>by
 obtain⟨a1,c1,L,a2,c2,H,S,-⟩:=h;rw[(Qh S.ob).1] at hb;cases hb
theorem Zxt.kept{w w':World}{B R P lo hi:Nat}(h:Zxt w B R P lo hi){row:Option Nat}(hg:w.grownBy w' row)(gR:∀ k,row=some k->∃ b,w.cell? ⟨k,0,none⟩=some (.bool b)):Zxt w' B R P lo hi:=by
 obtain⟨a1,c1,L,a2,c2,H,S,hB,l1,l2,v1,v2⟩:=h;have Ge:∀ (a:OA_) (c:Nat) (l:List Nat),l.length=P/64+2->Vh w B a c l->Vh w' B a c l:=fun a c l hl ho=>by
  refine World.ownsRow.kept ho hg ?_;obtain⟨g,rfl,h1,h2,h3,h4,h5⟩:=ho.open (by omega);right;intro e;obtain⟨b,hb⟩:=gR g (show row=some g from e.symm);rw[h4 0 (by omega)] at hb;cases hb
 refine⟨a1,c1,L,a2,c2,H,⟨?_,Ge _ _ _ l1 S.o1,Ge _ _ _ l2 S.o2,S.p1,S.p2⟩,hB,l1,l2,v1,v2⟩;rw[hg.block R (Array.getElem?_eq_some_iff.1 S.ob).1 (fun e=>?_)]
 ·exact S.ob
 ·obtain⟨b,hb⟩:=gR R e.symm;rw[(Qh S.ob).1] at hb;cases hb
def Qfg (w w':World) (p P n:Nat) (e:Ending):Prop :=
 Bw_ w w'/\match Vr p P n with
  | some _=>∃ a c,e = .returned (.tuple #[.slice a n c,.bool true])/\Zim w' w.heap.size a c (Zd0 p P n)
  | none=>e = .returned (.tuple #[.slice none 0 0,.bool false])
structure DgI (w wr:World) (R p P n j lo hi o:Nat) (a:OA_) (c:Nat):Prop where
 dg:Vr p P j=some (lo,hi,o)
 ma:Zxt wr w.heap.size R P lo hi
 bo:BoI wr w.heap.size a c (Zd0 p P j)
 bel:Bw_ w wr
theorem Zpq(w:World)(p n P:Nat)(hp:2<=p)(gM:p<=97)(hl:p.log2<=6)(hn:n<=1000)(hP:n+64<=P)(jW:P<=1300):
  Calls Tryz.prog 248 #[.int .i64 p,.int .i64 p.log2,.int .i64 n,.int .i64 P] w fun e w'=>Qfg w w' p P n e:=by
 have HB:=hd_ (Zxl w p p.log2 P (by omega) (by omega) (by omega));have H0:Hid (Vr p P 0=some (p*2^(P-p.log2),p*2^(P-p.log2),p.log2)):=rfl;have iz:Hid (∀ W R j lo hi o,w.heap.size<=W.heap.size->j<n->Vr p P j=some (lo,hi,o)->Zxt W w.heap.size R P lo hi->Calls Tryz.prog 293 #[.pointer (some ⟨R,0,none⟩)] W fun e w'=>Qa9 W w' w.heap.size R P (Zf4 (2^P) lo hi) e):=fun W R j lo hi o hW hj hd hM=>by
  refine Qcw W w.heap.size R P lo hi hM (by omega) hW (Zpu j _ hd) fun x hx=>?_
  have h1:=(Zg5 (b:=x.1) (l':=x.2.1) (g':=x.2.2) hd hx).1;have h2:=Zr3 (P:=P) (by omega) (by omega) (j+1) (by omega) (by omega) _ h1;have h3:=Zpu (j+1) _ h1;have h4:=Zwn (P:=P) (n:=j+1) (by omega) (by omega) h2;exact⟨Nat.lt_of_le_of_lt h3 h4,h4⟩
 generalize hk:p.log2=k at *;have Hk:=hd_ hk;clear hk;go_enter Tryz.func248,Tryz.ntmps248;go_wp2_with fail;refine cm_ HB.o ?_;rintro e w1 ⟨R,rfl,hM,hb⟩;have IQ:Hid (DgI w w1 R p P n 0 _ _ _ none 0):=⟨H0.o,hM,BoI.nil _ _,hb⟩;clear hM hb HB H0;go_wp2_with fail
 go_loopw [11,19] (fun v i wr=>∃ (j lo hi o:Nat) (a:OA_) (c:Nat),j<=n/\i = .int .i64 j/\v = .slice a j c/\Hid (DgI w wr R p P n j lo hi o a c)) (fun _ i _=>n-(intOf i).toNat)
 case atStart=>exact⟨0,_,_,_,none,0,Nat.zero_le _,rfl,rfl,IQ⟩
 case round =>
  obtain⟨j,lo,hi,o,a,c,hj,rfl,rfl,HD⟩:=hrel;clear IQ
  by_cases gd:j<n
  ·have gu:(j:Int)<n:=by omega
   have MO:IntKind.i64.wrap ((j:Int)+1)=((j+1:Nat):Int):=by rw[<- Int.natCast_succ];exact iw_ _ (by omega)
   go_wp2_with fail;refine cm_ (iz.o _ R j lo hi o HD.o.bel.size gd HD.o.dg HD.o.ma) ?_;rintro e w2 ⟨hg,hm⟩;have Ir:w.heap.size<=R:=by obtain⟨_,_,_,_,_,_,-,h,-⟩:=HD.o.ma;exact h
   have B2:=hd_ (HD.o.bel.grown hg HD.o.bel.size (fun k hk=>by cases hk;exact Ir));have IS:=hd_ (HD.o.bo.grown hg HD.o.ma.notBool);have Ff:=hd_ B2.o.size;cases Fm:Zf4 (2^P) lo hi with
   | none =>
    rw[Fm] at hm;obtain rfl:=hm;have cw:Hid (Vr p P n=none):=Zng (Zl9 HD.o.dg Fm) gd;clear hg Fm HD iz IS;go_wp2_with fail
    go_ret2
    refine⟨B2.o,?_⟩;rw[cw.o];rfl
   | some x =>
    rw[Fm] at hm;obtain⟨rfl,hM⟩:=hm;obtain⟨x1,x2,x3⟩:=x;obtain⟨Fo,H7⟩:=Zg5 HD.o.dg Fm;have ek:=hd_ Fo;have H9:=hd_ H7;have HM:=hd_ hM;clear hg Fm HD hM Fo H7;have gA:Hid (w2.ownsRow w.heap.size 4 1 (.slice a j c) j (Zbw (Zd0 p P j))):=by
     have:=IS.o.own
     unfold Zim at this;rw[Yl] at this;exact this
    have iq:Hid (∀ k,(Value.slice a j c).ownBlock=some k->∃ b,w2.cell? ⟨k,0,none⟩=some (.bool b)):=by
     have:=IS.o.fst
     rw[Yl] at this;exact this
    clear IS
    go_wp2_with (at_builtin;refine Kz rfl (.tmp 28) (.tmp 30) 315 rfl Qg1 _ 1 [.bool x1] rfl rfl gA.o Ff.o rfl (by simp[Value.oneCell']) (by omega) (by omega) ?_)
    intro v' w3 gl GE Gy;obtain⟨a3,d3,rfl⟩:=Vk gl;have NF:Hid (Zim w3 w.heap.size a3 d3 (Zd0 p P (j+1))):=by
     show Zim _ _ _ _ _
     unfold Zim;rw[Yl,Zua,Znv,H9.o];exact gl
    have M3:=hd_ ((show Zxt (w2.alloc (.cells #[.bool x1] 4)) w.heap.size R P x2 x3 from by
     obtain⟨a1,c1,L,a2,c2,H,S,h1,h2,h3,h4,h5⟩:=HM.o;exact⟨a1,c1,L,a2,c2,H,S.below ((Below.refl _ _).alloc nr_ _),h1,h2,h3,h4,h5⟩).kept GE (fun k hk=>by
      obtain⟨b,hb⟩:=iq.o k hk;exact⟨b,Lib.cell?_alloc_some _ hb⟩))
    have B3:=hd_ ((B2.o.alloc Ff.o (.cells #[.bool x1] 4)).grown GE (by simp;have:=Ff.o;omega) (fun k hk=>(World.ownsRow.lt gA.o k hk).1));clear gl GE Gy HM gA iq B2;go_wp2_with fail
    go_roundw
    case rel=>exact⟨j+1,x2,x3,_,a3,d3,by omega,by go_num,rfl,⟨ek.o,M3.o,BoI.of NF.o (by rw[Yl];omega),B3.o⟩⟩
    case measure=>simp[intOf];omega
  ·have Cx:j=n:=by omega
   subst Cx;have gu:¬ (j:Int)<j:=by omega
   have gA:Hid (Zim wr w.heap.size a c (Zd0 p P j)):=HD.o.bo.own;go_wp2_with fail
   go_ret2
   refine⟨HD.o.bel,?_⟩;rw[HD.o.dg];exact⟨a,c,rfl,gA.o⟩
theorem Zol{w:World}{a:OA_}{V:List Value}(h:Rd w a V)(m:Nat):Rd w a (V.take m):=by
 rcases h with rfl|⟨b,off,h1,h2,h3⟩
 ·left;simp
 ·refine .inr ⟨b,off,h1,h2,fun i v hi=>h3 i v ?_⟩;rw[List.getElem?_take] at hi;split at hi
  ·exact hi
  ·cases hi
theorem Zvh{w:World}{b o d:Nat}{V:List Value}(h:Rd w (some ⟨b,o,none⟩) V)(m:Nat)(hd:V.length<=d):Rd w (if d=m then some ⟨b,o,none⟩ else some ⟨b,o+m,none⟩) (V.drop m):=by
 split
 ·left;rw[List.drop_of_length_le (by omega)]
 ·rcases h with rfl | ⟨b',off,h1,h2,h3⟩
  ·left;simp
  ·simp only[Option.some.injEq,Addr.mk.injEq,and_true] at h1;obtain⟨rfl,rfl⟩:=h1;refine .inr ⟨b,o+m,rfl,h2,fun i v hi=>?_⟩;rw[List.getElem?_drop] at hi;rw[Nat.add_assoc];exact h3 (m+i) v hi
structure Qfn (n:Nat) (bl:List Bool) (F:Nat->Nat):Prop where
 len:bl.length=n
 nxt:∀ j,j<n->F (j+1)=2*F j+(bl.getD j false).toNat
 sm:∀ j,j<=n->F j<2^(j+3)
theorem Zzt{p P n:Nat}(hp:2<=p)(gM:p<=97)(hP:64<=P){s:Nat×Nat×Nat}(h:Vr p P n=some s):∃ F,Qfn n (Zd0 p P n) F/\F 0=p.log2/\F n=s.2.2:=by
 refine⟨fun j=>match Vr p P j with | some s=>s.2.2 | none=>0,⟨Yl p P n,fun j hj=>?_,fun j hj=>?_⟩,rfl,?_⟩
 ·have h1:(Vr p P (j+1)).isSome:=Zay hj (by rw[h];rfl);have h0:(Vr p P j).isSome:=Zay (Nat.le_of_lt hj) (by rw[h];rfl);obtain⟨t,ht⟩:=Option.isSome_iff_exists.1 h1;obtain⟨u,hu⟩:=Option.isSome_iff_exists.1 h0;simp only[ht,hu];rw[Zxk p P n j hj];exact Zzr hu ht
 ·have h0:(Vr p P j).isSome:=Zay hj (by rw[h];rfl);obtain⟨u,hu⟩:=Option.isSome_iff_exists.1 h0;simp only[hu];exact(Zw2 p P hp gM hP j _ hu).o
 ·simp only[h]
theorem Zzs(n:Nat):Qfn n (List.replicate n false) (fun j=>2^j):=by
 refine⟨by simp,fun j hj=>?_,fun j hj=>Nat.pow_lt_pow_right (by decide) (by omega)⟩;have:(List.replicate n false).getD j false=false:=by rw[List.getD_eq_getElem?_getD,List.getElem?_replicate];split<;>rfl
 rw[this,Nat.pow_succ]
 show _=_+0
 omega
/-! The walk. -/
def K10:Nat:=1010
theorem k10:K10=1010:=rfl
theorem Qd5(n:Nat)(w:World)(hn:n<=100000000):
  (Instr.makeSlice 315 (.int .i64 (n:Int)) (.int .i64 (n:Int))).run Tryz.prog w = .ok (.slice (some ⟨w.heap.size,0,none⟩) n n) (w.alloc (.cells (Zbw (List.replicate n false)).toArray 4)):=by
 have:=run_make_row' (P:=Tryz.prog) 315 4 (.bool false) 1 Tryz.underlying315 Qa2 rfl .i64 .i64 n (by omega) (by omega) w
 rw[show madeCells #[.bool false] n=(Zbw (List.replicate n false)).toArray by apply Array.ext';rw[toList_madeCells_one];simp[Zbw]] at this;exact this
theorem Zvg(w:World)(l:List Bool):Rd (w.alloc (.cells (Zbw l).toArray 4)) (some ⟨w.heap.size,0,none⟩) (Zbw l) :=
 .inr ⟨w.heap.size,0,rfl,by simp,fun i v hi=>by
  rw[Nat.zero_add,cell_of_row _ w.heap.size i _ 4 (0,0) (heap_alloc_new w _)]
  simpa using hi⟩
theorem Zyj{w:World}{B:Nat}{a:OA_}{c:Nat}{l:List Bool}(h:Zim w B a c l):Rd w a (Zbw l):=by
 by_cases hn:0<l.length
 ·obtain⟨g,cap,hv,h1,h2,h3,h4,h5⟩:=Ye h hn;simp only[Value.slice.injEq] at hv;obtain⟨rfl,-,-⟩:=hv;refine .inr ⟨g,0,rfl,h2,fun i v hi=>?_⟩;have gd:=(List.getElem?_eq_some_iff.1 hi).1;rw[Zal] at gd;rw[Nat.zero_add,h4 i (by omega)];exact hi
 ·obtain rfl:=List.length_eq_zero_iff.1 (Nat.eq_zero_of_not_pos hn);exact .inl rfl
structure LoI (w wr:World) (n:Nat) (bl:List Bool) (j:Nat) (a:OA_) (c:Nat):Prop where
 rd:Rd wr a (Zbw (bl.drop j))
 cap:n-j<=c
 bel:Bw_ w wr
theorem Zrw(w:World)(p n:Nat)(hp:p=2\/p∈Za4)(hn:n<=1000)(L:Qg w):
  Kc Tryz.prog 186 #[.int .i64 p,.int .i64 n] w (.string (dec (lgN p n))):=by
 unfold Kc;have Cc:2<=p:=by
  rcases hp with h|h
  ·omega
  ·have:=Zas h;have:=Zgc h;omega
 have gM:p<=97:=by
  rcases hp with h|h
  ·omega
  ·have:=Zas h;omega
 have hl:=Zo7 p Cc gM;have eQ:=hd_ (Tryz.bits_Len p w (by omega) (by omega));rw[show ((p:Nat):Int).toNat=p from rfl,Zfj p (by omega) gM] at eQ;have fH:IntKind.i64.wrap (((p.log2+1:Nat):Int)-1)=(p.log2:Int):=by rw[show ((p.log2+1:Nat):Int)-1=(p.log2:Int) by omega];exact iw_ _ (by omega)
 have fM:IntKind.u64.wrap (p:Int)=p:=IntWalk.u64_in _ (by omega);have HL:=hd_ L;clear L;have Gj:Hid (∀ (z:Nat) W,z<=1000000000->Bw_ w W->Kc Tryz.prog 13 #[.int .i64 z] W (.string (dec z))):=fun z W hz hW=>by
  have:=Zam W z (by omega) (by omega) (HL.o.below hW)
  rw[Kg] at this;exact this
 have cE:Hid (∀ (x g:Nat) W,x<2^K10->g<=28->Bw_ w W->Kc Tryz.prog 14 #[.string (dec x),.string (dec (2^g))] W (.string (dec (x*2^g)))):=fun x g W hx hg hW =>
  Qfk W x (2^g) K10 (by decide) hx (Nat.pow_lt_pow_right (by decide) (by rw[k10];omega)) (HL.o.below hW)
 have iF:Hid (∀ (x a g:Nat) W,x<2^K10->g<=28->a<2^g->Bw_ w W->Kc Tryz.prog 205 #[.string (dec (x*2^g)),.string (dec a)] W (.string (dec (x*2^g+a)))):=fun x a g W hx hg ha hW=>by
  refine Zz7 W (x*2^g) a (K10+90) (by decide) ?_ ?_ (HL.o.below hW)
  ·refine Nat.lt_of_lt_of_le (Nat.mul_lt_mul_of_pos_right hx (Nat.two_pow_pos g)) ?_;rw[<- Nat.pow_add];exact Nat.pow_le_pow_right (by decide) (by omega)
  ·exact Nat.lt_of_lt_of_le ha (Nat.pow_le_pow_right (by decide) (by rw[k10];omega))
 have BF:Hid (p≠2->∀ (P:Nat) W,n+64<=P->P<=1300->Calls Tryz.prog 248 #[.int .i64 p,.int .i64 p.log2,.int .i64 n,.int .i64 P] W fun e w'=>Qfg W w' p P n e):=fun _ P W h1 h2=>Zpq W p n P Cc gM hl hn h1 h2
 have Ck:Hid (∀ P,p≠2->1120<=P->Vr p P n≠none):=fun P h1 h2 h3=>by
  have:=Zlj (hp.resolve_left h1) (show n<=1056 by omega) h2
  rw[h3] at this;cases this
 have Dl:Hid (∀ (P:Nat) s,p≠2->64<=P->Vr p P n=some s->s.2.2=lgN p n):=fun P s h1 h2 h3=>Zep (hp.resolve_left h1) (by omega) (by omega) h3
 have CJ:Hid (p=2->lgN p n=2^n):=fun h=>by rw[h];exact Zq n
 have Nd:=hd_ Cc;have Fq:=hd_ gM;have Hn:=hd_ hn;have MC:p<=97:=gM;have Ig:n<=1000:=hn;obtain⟨v,hv⟩:∃ v,lgN p n=v:=⟨_,rfl⟩;rw[hv] at Dl CJ ⊢;clear hv hp Cc gM hn;generalize hk:p.log2=k at *;have Hk:=hd_ hk;clear hk;go_enter Tryz.func186,Tryz.ntmps186;go_wp2_with fail;refine cm_ eQ.o ?_;rintro e w1 ⟨rfl,hw1e⟩;clear eQ;go_wp2_with fail;clear hw1e;refine cm_ (Gj.o k w (by omega) (Below.refl _ _)) ?_;rintro e w2 ⟨rfl,hb⟩;have B2:=hd_ hb;clear hb
 by_cases h2:p=2
 ·have Hv:Hid (v=2^n):=CJ.o h2;have Ew:Hid (k=1):=by
   show _=_
   rw[<- Hk.o,h2];decide +kernel
  subst h2;have eA:=Qd5 n w2 (by omega);have ID:=hd_ (Zvg w2 (List.replicate n false));have B3:=hd_ (B2.o.alloc B2.o.size (.cells (Zbw (List.replicate n false)).toArray 4));generalize w2.alloc (.cells (Zbw (List.replicate n false)).toArray 4)=w3 at *;clear B2 BF Ck Dl CJ;go_wp2_with fail
  go_loopw [7,8] (fun l q wr=>l = .slice (some ⟨w2.heap.size,0,none⟩) n n/\q = .int .i64 ((n:Int)+64)/\Hid (wr=w3)) (fun _ _ _=>0)
  case atStart=>exact⟨rfl,rfl,rfl⟩
  case round =>
   obtain⟨rfl,rfl,FM⟩:=hrel;obtain rfl:=FM.o;clear FM;obtain⟨F,hF⟩:∃ F:Nat->Nat,F=fun j=>2^j:=⟨_,rfl⟩
   obtain⟨bl,Dd⟩:∃ bl,bl=List.replicate n false:=⟨_,rfl⟩;have HF:Hid (Qfn n bl F):=by show Qfn n bl F;rw[Dd,hF];exact Zzs n
   have lh:Hid (F 0=k):=by show _=_;rw[hF,Ew.o]
   have ld:Hid (F n=v):=by show _=_;rw[hF,Hv.o]
   have HR:Hid (LoI w wr n bl 0 (some ⟨w2.heap.size,0,none⟩) n):=⟨by rw[List.drop_zero,Dd];exact ID.o,by omega,B3.o⟩;clear hF Dd Hv Ew ID B3;go_wp2_with fail
   go_loopw [6,7] (fun s l wr=>∃ (j:Nat) (a:OA_) (c:Nat),j<=n/\s = .string (dec (F j))/\l = .slice a (n-j) c/\Hid (LoI w wr n bl j a c)) (fun _ l _=>match l with | .slice _ m _=>m | _=>0)
   case atStart=>exact⟨0,_,_,Nat.zero_le _,by rw[lh.o],by rw[Nat.sub_zero],HR⟩
   case round =>
    clear HR;obtain⟨j,a,c,hj,rfl,rfl,HI⟩:=hrel;obtain⟨m,hm⟩:∃ m,n-j=m:=⟨_,rfl⟩;have jw:m<=1000:=by omega
    rw[hm]
    by_cases gd:0<m
    ·have gu:(0:Int)<m:=by omega
     obtain⟨g,hg⟩:∃ g,min m 28=g:=⟨_,rfl⟩;have EQ:g<=28:=by omega
     have MS:g<=m:=by omega
     have fK:0<g:=by omega
     have jv:min (m:Int) 28=(g:Nat):=by omega
     have ER:g<=c:=by have:=HI.o.cap;omega
     have il:=hd_ (show j+g<=n by omega);obtain⟨b,off,rfl,HU,Gm⟩:=HI.o.rd.open (by rw[Zal,List.length_drop,HF.o.len];omega);have gw:Hid (∀ t,t<g->wr.cell? ⟨b,off+t,none⟩=some (.bool (bl.getD (j+t) false))):=fun t ht=>by
      refine Gm t _ ?_;rw[Zh3 _ _ (by rw[List.length_drop,HF.o.len];omega)];rw[List.getD_eq_getElem?_getD,List.getD_eq_getElem?_getD,List.getElem?_drop]
     clear Gm;obtain⟨wo,hwo⟩:∃ wo:World,wo=wr:=⟨_,rfl⟩;subst hwo;go_wp2_with fail
     go_loopw [11,49] (fun ad i wr=>∃ t x:Nat,t<=g/\i = .int .i64 t/\ad = .int .i64 x/\x<268435456/\Hid (x<2^t/\F (j+t)=F j*2^t+x)/\Hid (Bw_ wo wr)) (fun _ i _=>g-(intOf i).toNat)
     case atStart=>exact⟨0,0,Nat.zero_le _,rfl,rfl,by decide,⟨by decide,by simp⟩,Below.refl _ _⟩
     case round =>
      obtain⟨t,x,ht,rfl,rfl,hx,HX,HB⟩:=hrel
      by_cases Gf:t<g
      ·have Fx:(t:Int)<g:=by omega
       have cb:=gw.o t Gf;rw[<- HB.o.cell (p:=⟨b,off+t,none⟩) HU] at cb;have dG:=HF.o.nxt (j+t) (by have:=il.o;omega);have aR:=HX.o.1;have Dv:2^(t+1)<=268435456:=Nat.le_trans (Nat.pow_le_pow_right (by decide) (show t+1<=28 by omega)) (by decide);have GP:2^(t+1)=2*2^t:=by rw[Nat.pow_succ,Nat.mul_comm]
       have jd:IntKind.i64.wrap ((x:Int)*2)=((2*x:Nat):Int):=by rw[show (x:Int)*2=((2*x:Nat):Int) by omega];exact iw_ _ (by omega)
       have bG:IntKind.i64.wrap (((2*x:Nat):Int)+1)=((2*x+1:Nat):Int):=by rw[<- Int.natCast_succ];exact iw_ _ (by omega)
       have Mu:IntKind.i64.wrap ((t:Int)+1)=((t+1:Nat):Int):=by rw[<- Int.natCast_succ];exact iw_ _ (by omega)
       have e1:F j*2^(t+1)=2*(F j*2^t):=by rw[GP];exact Nat.mul_left_comm ..
       have CB:=HX.o.2;cases hbv:bl.getD (j+t) false with
       | true =>
        have GO:Hid (2*x+1<2^(t+1)/\F (j+(t+1))=F j*2^(t+1)+(2*x+1)):=by
         refine⟨by omega,?_⟩;rw[hbv] at dG;rw[<- Nat.add_assoc,dG,CB,e1]
         show _+1=_
         omega
        have fh:2*x+1<268435456:=by have:=GO.o.1;omega
        rw[hbv] at cb;clear dG hbv HX e1 CB aR Dv GP;go_wp2_with fail;refine⟨⟨t+1,2*x+1,by omega,by go_num,by go_num,fh,GO,HB⟩,by simp[intOf];omega⟩
       | false =>
        have GO:Hid (2*x<2^(t+1)/\F (j+(t+1))=F j*2^(t+1)+2*x):=by
         refine⟨by omega,?_⟩;rw[hbv] at dG;rw[<- Nat.add_assoc,dG,CB,e1]
         show _+0=_
         omega
        have fh:2*x<268435456:=by have:=GO.o.1;omega
        rw[hbv] at cb;clear dG hbv HX e1 CB aR Dv GP bG;go_wp2_with fail;refine⟨⟨t+1,2*x,by omega,by go_num,by go_num,fh,GO,HB⟩,by simp[intOf];omega⟩
      ·obtain rfl:t=g:=by omega
       have Fx:¬ (t:Int)<t:=by omega
       have Ax:=HF.o.sm j hj;have ET:F j<2^K10:=Nat.lt_of_lt_of_le Ax (Nat.pow_le_pow_right (by decide) (by rw[k10];omega));obtain⟨G,hG⟩:∃ G,2^t=G:=⟨_,rfl⟩;have nB:G<=268435456:=by rw[<- hG];exact Nat.le_trans (Nat.pow_le_pow_right (by decide) EQ) (by decide)
       have nw:(2:Int)^t=(G:Nat):=by rw[<- hG,Int.natCast_pow];rfl
       have CU:IntKind.i64.wrap (G:Int)=(G:Nat):=iw_ _ (by omega);have hM:=fun W hW=>cE.o (F j) t W ET EQ hW
       have hA:=fun W hW=>iF.o (F j) x t W ET EQ HX.o.1 hW
       have Bc:=HX.o.2;rw[hG] at hM hA Bc;have ab:=hd_ (HI.o.bel.trans (HB.o.mono HI.o.bel.size));have HM:=hd_ hM;have HA:=hd_ hA;have iG:=hd_ Bc;have DB:=hd_ (fun W hW=>Gj.o G W (by omega) hW);have DA:=hd_ (fun W hW=>Gj.o x W (by omega) hW);clear Ax ET hG hM hA Bc HX;go_wp2_with fail;refine cm_ (DB.o _ ab.o) ?_;rintro e w4 ⟨rfl,hb⟩;have B4:=bt_ ab hb;have C4:=bt_ HB hb;clear hb;go_wp2_with fail;refine cm_ (HM.o _ B4.o) ?_;rintro e w5 ⟨rfl,hb⟩;have B5:=bt_ B4 hb;have C5:=bt_ C4 hb;clear hb B4 C4;go_wp2_with fail;refine cm_ (DA.o _ B5.o) ?_;rintro e w6 ⟨rfl,hb⟩;have B6:=bt_ B5 hb;have C6:=bt_ C5 hb;clear hb B5 C5;go_wp2_with fail;refine cm_ (HA.o _ B6.o) ?_;rintro e w7 ⟨rfl,hb⟩;have B7:=bt_ B6 hb;have C7:=bt_ C6 hb;clear hb B6 C6 DB DA HM HA HB ab gw;have JZ:=hd_ (Zvh (d:=c) (HI.o.rd.below C7.o nr_) t (by rw[Zal,List.length_drop,HF.o.len];have:=HI.o.cap;omega));have E2:=hd_ HI.o.cap;rw[<- iG.o];clear HI iG;go_wp2_with fail;refine⟨⟨j+t,_,c-t,il.o,rfl,by rw[show n-(j+t)=m-t by omega],⟨?_,by have:=E2.o;omega,B7.o⟩⟩,by show m-t<m;omega⟩;have:=JZ.o
       unfold Zbw at this;rw[<- List.map_drop,List.drop_drop] at this;exact this
    ·obtain rfl:j=n:=by omega
     obtain rfl:m=0:=by omega
     go_wp2_with fail;go_ret;exact⟨by rw[ld.o];rfl,HI.o.bel⟩
 ·have Iu:((p:Int)==2)=false:=by rw[beq_eq_false_iff_ne];omega
  have oP:((p:Int) != 2)=true:=by rw[bne_iff_ne];omega
  have iu:=hd_ (BF.o h2);have A5:=hd_ (fun P h=>Ck.o P h2 h);have ig:=hd_ (fun P s h=>Dl.o P s h2 h);have A8:=hd_ (fun (P:Nat) (s:Nat×Nat×Nat) (h1:64<=P) (h:Vr p P n=some s)=>Zzt Nd.o Fq.o h1 h);clear BF Ck Dl CJ;have lC:IntKind.i64.wrap ((n:Int)+64)=((n+64:Nat):Int):=by rw[show (n:Int)+64=((n+64:Nat):Int) by omega];exact iw_ _ (by omega)
  go_wp2_with fail
  go_loopw [7,8] (fun l q wr=>∃ P:Nat,n+64<=P/\P<=1200/\l = .slice none 0 0/\q = .int .i64 P/\Hid (Bw_ w wr)) (fun _ q _=>1300-(intOf q).toNat)
  case atStart=>exact⟨n+64,Nat.le_refl _,by omega,rfl,rfl,B2⟩
  case round =>
   obtain⟨P,Lc,jW,rfl,rfl,B3⟩:=hrel;clear B2;go_wp2_with fail;refine cm_ (iu.o P _ Lc (by omega)) ?_;rintro e w4 ⟨hb,hm⟩;have B4:=bt_ B3 hb;have oI:IntKind.i64.wrap ((P:Int)+64)=((P+64:Nat):Int):=by rw[show (P:Int)+64=((P+64:Nat):Int) by omega];exact iw_ _ (by omega)
   cases hd:Vr p P n with
   | none =>
    rw[hd] at hm;obtain rfl:=hm;have jV:P<1120:=Nat.lt_of_not_le fun h=>A5.o P h hd
    clear hb hd;go_wp2_with fail;refine⟨⟨P+64,by omega,by omega,rfl,by go_num,B4⟩,by simp[intOf];omega⟩
   | some s =>
    rw[hd] at hm;obtain⟨a0,c0,rfl,ho⟩:=hm;obtain⟨F,hF,hFk,hFn⟩:=A8.o P s (by omega) hd;have mL:=hd_ (Zyj ho);have bB:Hid (n<=c0):=by
     have:Zim w4 wr.heap.size a0 c0 (Zd0 p P n):=ho
     show n<=c0
     rcases this.2 with⟨h1,h0⟩|⟨g,cap,cur,h1,_,_,h2,_⟩
     ·simp only[Value.slice.injEq] at h1;rw[Yl] at h0;omega
     ·simp only[Value.slice.injEq] at h1;rw[Yl] at h2;omega
    have ld:Hid (F n=v):=by show _=_;rw[hFn];exact ig.o P s (by omega) hd
    have HF:=hd_ hF;have lh:Hid (F 0=k):=by show _=_;rw[hFk,Hk.o]
    clear hF hFn hFk hb hd ho iu A5 ig A8 B3;generalize Zd0 p P n=bl at *;have HR:Hid (LoI w w4 n bl 0 a0 c0):=⟨by rw[List.drop_zero];exact mL.o,by have:=bB.o;omega,B4.o⟩;clear mL bB B4;go_wp2_with fail
    go_loopw [6,7] (fun s l wr=>∃ (j:Nat) (a:OA_) (c:Nat),j<=n/\s = .string (dec (F j))/\l = .slice a (n-j) c/\Hid (LoI w wr n bl j a c)) (fun _ l _=>match l with | .slice _ m _=>m | _=>0)
    case atStart=>exact⟨0,_,_,Nat.zero_le _,by rw[lh.o],by rw[Nat.sub_zero],HR⟩
    case round =>
     clear HR;obtain⟨j,a,c,hj,rfl,rfl,HI⟩:=hrel;obtain⟨m,hm⟩:∃ m,n-j=m:=⟨_,rfl⟩;have jw:m<=1000:=by omega
     rw[hm]
     by_cases gd:0<m
     ·have gu:(0:Int)<m:=by omega
      obtain⟨g,hg⟩:∃ g,min m 28=g:=⟨_,rfl⟩;have EQ:g<=28:=by omega
      have MS:g<=m:=by omega
      have fK:0<g:=by omega
      have jv:min (m:Int) 28=(g:Nat):=by omega
      have ER:g<=c:=by have:=HI.o.cap;omega
      have il:=hd_ (show j+g<=n by omega);obtain⟨b,off,rfl,HU,Gm⟩:=HI.o.rd.open (by rw[Zal,List.length_drop,HF.o.len];omega);have gw:Hid (∀ t,t<g->wr.cell? ⟨b,off+t,none⟩=some (.bool (bl.getD (j+t) false))):=fun t ht=>by
       refine Gm t _ ?_;rw[Zh3 _ _ (by rw[List.length_drop,HF.o.len];omega)];rw[List.getD_eq_getElem?_getD,List.getD_eq_getElem?_getD,List.getElem?_drop]
      clear Gm;obtain⟨wo,hwo⟩:∃ wo:World,wo=wr:=⟨_,rfl⟩;subst hwo;go_wp2_with fail
      go_loopw [11,49] (fun ad i wr=>∃ t x:Nat,t<=g/\i = .int .i64 t/\ad = .int .i64 x/\x<268435456/\Hid (x<2^t/\F (j+t)=F j*2^t+x)/\Hid (Bw_ wo wr)) (fun _ i _=>g-(intOf i).toNat)
      case atStart=>exact⟨0,0,Nat.zero_le _,rfl,rfl,by decide,⟨by decide,by simp⟩,Below.refl _ _⟩
      case round =>
       obtain⟨t,x,ht,rfl,rfl,hx,HX,HB⟩:=hrel
       by_cases Gf:t<g
       ·have Fx:(t:Int)<g:=by omega
        have cb:=gw.o t Gf;rw[<- HB.o.cell (p:=⟨b,off+t,none⟩) HU] at cb;have dG:=HF.o.nxt (j+t) (by have:=il.o;omega);have aR:=HX.o.1;have Dv:2^(t+1)<=268435456:=Nat.le_trans (Nat.pow_le_pow_right (by decide) (show t+1<=28 by omega)) (by decide);have GP:2^(t+1)=2*2^t:=by rw[Nat.pow_succ,Nat.mul_comm]
        have jd:IntKind.i64.wrap ((x:Int)*2)=((2*x:Nat):Int):=by rw[show (x:Int)*2=((2*x:Nat):Int) by omega];exact iw_ _ (by omega)
        have bG:IntKind.i64.wrap (((2*x:Nat):Int)+1)=((2*x+1:Nat):Int):=by rw[<- Int.natCast_succ];exact iw_ _ (by omega)
        have Mu:IntKind.i64.wrap ((t:Int)+1)=((t+1:Nat):Int):=by rw[<- Int.natCast_succ];exact iw_ _ (by omega)
        have e1:F j*2^(t+1)=2*(F j*2^t):=by rw[GP];exact Nat.mul_left_comm ..
        have CB:=HX.o.2;cases hbv:bl.getD (j+t) false with
        | true =>
         have GO:Hid (2*x+1<2^(t+1)/\F (j+(t+1))=F j*2^(t+1)+(2*x+1)):=by
          refine⟨by omega,?_⟩;rw[hbv] at dG;rw[<- Nat.add_assoc,dG,CB,e1]
          show _+1=_
          omega
         have fh:2*x+1<268435456:=by have:=GO.o.1;omega
         rw[hbv] at cb;clear dG hbv HX e1 CB aR Dv GP;go_wp2_with fail;refine⟨⟨t+1,2*x+1,by omega,by go_num,by go_num,fh,GO,HB⟩,by simp[intOf];omega⟩
        | false =>
         have GO:Hid (2*x<2^(t+1)/\F (j+(t+1))=F j*2^(t+1)+2*x):=by
          refine⟨by omega,?_⟩;rw[hbv] at dG;rw[<- Nat.add_assoc,dG,CB,e1]
          show _+0=_
          omega
         have fh:2*x<268435456:=by have:=GO.o.1;omega
         rw[hbv] at cb;clear dG hbv HX e1 CB aR Dv GP bG;go_wp2_with fail;refine⟨⟨t+1,2*x,by omega,by go_num,by go_num,fh,GO,HB⟩,by simp[intOf];omega⟩
       ·obtain rfl:t=g:=by omega
        have Fx:¬ (t:Int)<t:=by omega
        have Ax:=HF.o.sm j hj;have ET:F j<2^K10:=Nat.lt_of_lt_of_le Ax (Nat.pow_le_pow_right (by decide) (by rw[k10];omega));obtain⟨G,hG⟩:∃ G,2^t=G:=⟨_,rfl⟩;have nB:G<=268435456:=by rw[<- hG];exact Nat.le_trans (Nat.pow_le_pow_right (by decide) EQ) (by decide)
        have nw:(2:Int)^t=(G:Nat):=by rw[<- hG,Int.natCast_pow];rfl
        have CU:IntKind.i64.wrap (G:Int)=(G:Nat):=iw_ _ (by omega);have hM:=fun W hW=>cE.o (F j) t W ET EQ hW
        have hA:=fun W hW=>iF.o (F j) x t W ET EQ HX.o.1 hW
        have Bc:=HX.o.2;rw[hG] at hM hA Bc;have ab:=hd_ (HI.o.bel.trans (HB.o.mono HI.o.bel.size));have HM:=hd_ hM;have HA:=hd_ hA;have iG:=hd_ Bc;have DB:=hd_ (fun W hW=>Gj.o G W (by omega) hW);have DA:=hd_ (fun W hW=>Gj.o x W (by omega) hW);clear Ax ET hG hM hA Bc HX;go_wp2_with fail;refine cm_ (DB.o _ ab.o) ?_;rintro e w4 ⟨rfl,hb⟩;have B4:=bt_ ab hb;have C4:=bt_ HB hb;clear hb;go_wp2_with fail;refine cm_ (HM.o _ B4.o) ?_;rintro e w5 ⟨rfl,hb⟩;have B5:=bt_ B4 hb;have C5:=bt_ C4 hb;clear hb B4 C4;go_wp2_with fail;refine cm_ (DA.o _ B5.o) ?_;rintro e w6 ⟨rfl,hb⟩;have B6:=bt_ B5 hb;have C6:=bt_ C5 hb;clear hb B5 C5;go_wp2_with fail;refine cm_ (HA.o _ B6.o) ?_;rintro e w7 ⟨rfl,hb⟩;have B7:=bt_ B6 hb;have C7:=bt_ C6 hb;clear hb B6 C6 DB DA HM HA HB ab gw;have JZ:=hd_ (Zvh (d:=c) (HI.o.rd.below C7.o nr_) t (by rw[Zal,List.length_drop,HF.o.len];have:=HI.o.cap;omega));have E2:=hd_ HI.o.cap;rw[<- iG.o];clear HI iG;go_wp2_with fail;refine⟨⟨j+t,_,c-t,il.o,rfl,by rw[show n-(j+t)=m-t by omega],⟨?_,by have:=E2.o;omega,B7.o⟩⟩,by show m-t<m;omega⟩;have:=JZ.o
        unfold Zbw at this;rw[<- List.map_drop,List.drop_drop] at this;exact this
     ·obtain rfl:j=n:=by omega
      obtain rfl:m=0:=by omega
      go_wp2_with fail;go_ret;exact⟨by rw[ld.o];rfl,HI.o.bel⟩
end Go.Proofs.YtbielfplgbammaaGreatDoor
