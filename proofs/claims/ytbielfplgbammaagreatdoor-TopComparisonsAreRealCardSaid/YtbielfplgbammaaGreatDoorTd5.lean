/- Lemmas for the laws of this seat, part 5. -/
import Derived.Laws.AppendOwnNone
import Derived.BigQuiet
import Derived.Deep.OwnRows
import Derived.Test.YtbielfplgbammaaGreatDoorTd4
set_option maxRecDepth 100000
set_option maxHeartbeats 16000000
namespace Go.Proofs.YtbielfplgbammaaGreatDoor
open Go.RowKit
theorem Ztt{p N a b:Nat}(h1:Qey p N a)(h2:Qey p (2*N) b):b=2*a\/b=2*a+1:=by
 have hP:p^(2*N)=p^N*p^N:=by rw[Nat.two_mul,Nat.pow_add]
 have e1:2^(2*a)<=p^(2*N):=by
  rw[hP,Nat.two_mul,Nat.pow_add];exact Nat.mul_le_mul h1.1 h1.1
 have e2:p^(2*N)<2^(2*a+2):=by
  rw[hP,show 2*a+2=(a+1)+(a+1) by omega,Nat.pow_add];exact Nat.mul_lt_mul'' h1.2 h1.2
 have f1:=(Nat.pow_lt_pow_iff_right (by decide)).1 (Nat.lt_of_le_of_lt e1 h2.2);have f2:=(Nat.pow_lt_pow_iff_right (by decide)).1 (Nat.lt_of_le_of_lt h2.1 e2);omega
theorem Zla{p n:Nat}(hp:p∈Zba)(hn:n+1<=1056):lgN p (n+1)=2*lgN p n\/lgN p (n+1)=2*lgN p n+1:=by
 have h2:=Zrq hp hn;rw[Nat.pow_succ,Nat.mul_comm] at h2;exact Ztt (Zrq hp (by omega)) h2
theorem Zhy{p n:Nat}(hp:p=2\/p∈Zba):∀ d,n+d<=1056->lgN p (n+d)/2^d=lgN p n
 | 0,_=>by simp
 | d+1,h=>by
  have ih:=Zhy hp d (n:=n) (by omega);rw[<- Nat.add_assoc,Nat.pow_succ,Nat.mul_comm,<- Nat.div_div_eq_div_mul];have e:lgN p (n+d+1)/2=lgN p (n+d):=by
   rcases hp with rfl|hp
   ·rw[show ((2:Nat):Int)=2 from rfl,Zb1,Zb1,Nat.pow_succ];omega
   ·rcases Zla hp (n:=n+d) (by omega) with e | e<;>rw[e]<;>omega
  rw[e,ih]
def xE (p:Int) (n:Nat):Rat:=if p=2 then 1 else mkRat ((lgN p n:Nat):Int) (2^n)
def yE (p:Int) (n:Nat):Rat:=if p=2 then 1 else mkRat ((lgN p n+1:Nat):Int) (2^n)
def loE (n:Nat):List Int->List Rat->Rat
 | p::ps,c::l=>Zix (c*xE p n) (c*yE p n)+loE n ps l
 | _,_=>0
def hiE (n:Nat):List Int->List Rat->Rat
 | p::ps,c::l=>Ziy (c*xE p n) (c*yE p n)+hiE n ps l
 | _,_=>0
theorem Zch(n:Nat):((2^n:Nat):Rat)=2^n:=by
 rw[LN.natCast_pow];rfl
theorem Zl(n:Nat):(0:Rat)<2^n:=Rat.pow_pos (by decide)
theorem Zi9(p:Int)(n:Nat):xE p n*2^n=((lgN p n:Nat):Rat):=by
 unfold xE
 by_cases h:p=2
 ·rw[if_pos h,h,Zb1,Zch,Rat.one_mul]
 ·rw[if_neg h,<- Zch,<- Rat.intCast_natCast (lgN p n),Zax _ _ (Nat.two_pow_pos n)]
theorem Zi8(p:Int)(n:Nat):yE p n*2^n=((LN.hiL (lf n) p:Nat):Rat):=by
 unfold yE LN.hiL
 by_cases h:p=2
 ·rw[if_pos h,if_pos h,h];unfold lf;rw[Zb1,Zch,Rat.one_mul]
 ·rw[if_neg h,if_neg h];unfold lf;rw[<- Zch,<- Rat.intCast_natCast (lgN p n+1),Zax _ _ (Nat.two_pow_pos n)]
theorem Zcn{a b:Rat}{n:Nat}(h:a*2^n<=b*2^n):a<=b:=Rat.le_of_mul_le_mul_right h (Zl n)
theorem Zbl(p:Int)(n:Nat):xE p n<=yE p n:=by
 refine Zcn (n:=n) ?_;rw[Zi9,Zi8];refine Rat.natCast_le_natCast.2 ?_;unfold LN.hiL lf;split<;>omega
theorem Zd6{c x y:Rat}(h:x<=y)(hc:c<0):Zix (c*x) (c*y)=c*y/\Ziy (c*x) (c*y)=c*x:=by
 have h1:c*y<=c*x:=by
  have:=Rat.mul_le_mul_of_nonneg_left h (c := -c) (by grind)
  grind
 unfold Zix Ziy;refine⟨?_,?_⟩
 ·split
  ·rfl
  ·grind
 ·split
  ·grind
  ·rfl
theorem Zbb{c x y:Rat}(h:x<=y)(hc:0<=c):Zix (c*x) (c*y)=c*x/\Ziy (c*x) (c*y)=c*y:=by
 have h1:c*x<=c*y:=Rat.mul_le_mul_of_nonneg_left h hc;unfold Zix Ziy;refine⟨?_,?_⟩
 ·split
  ·grind
  ·rfl
 ·split
  ·rfl
  ·grind
theorem Zom(D:Nat)(p:Int)(ps:List Int)(c:Rat)(l:List Rat):Qt D (p::ps) (c::l)=if c.num=0 then Qt D ps l else (p,LN.ex D c)::Qt D ps l:=by
 unfold Qt LN.ex;rw[List.zip_cons_cons,List.filterMap_cons]
 by_cases h:c.num=0
 ·simp[h]
 ·simp[h]
theorem Qas(f:Int->Nat)(x:Int×Int)(l:List (Int×Int)):LN.eLo f (x::l)=(if x.2<0 then x.2*(LN.hiL f x.1:Int) else x.2*(f x.1:Int))+LN.eLo f l:=by
 unfold LN.eLo;rw[List.map_cons,List.sum_cons]
theorem Qau(f:Int->Nat)(x:Int×Int)(l:List (Int×Int)):LN.eHi f (x::l)=(if x.2<0 then x.2*(f x.1:Int) else x.2*(LN.hiL f x.1:Int))+LN.eHi f l:=by
 unfold LN.eHi;rw[List.map_cons,List.sum_cons]
theorem Zry{D:Nat}(hD:0<D)(n:Nat):∀ (ps:List Int) (l:List Rat),(∀ q∈l,q.den ∣ D) ->
  ((LN.eLo (lf n) (Qt D ps l):Int):Rat)=loE n ps l*D*2^n/\((LN.eHi (lf n) (Qt D ps l):Int):Rat)=hiE n ps l*D*2^n
 | [],_,_=>by
  simp[Qt,LN.eLo,LN.eHi,loE,hiE,Rat.zero_mul]
 | _::_,[],_=>by
  simp[Qt,LN.eLo,LN.eHi,loE,hiE,Rat.zero_mul]
 | p::ps,c::l,h=>by
  obtain⟨i1,i2⟩:=Zry hD n ps l fun q hq=>h q (List.mem_cons_of_mem _ hq)
  have hc:=LN.ex_eq (h c List.mem_cons_self);have hx:xE p n*2^n=((lf n p:Nat):Rat):=Zi9 p n;have hy:=Zi8 p n;have fW:=Zbl p n;rw[Zom];simp only[loE,hiE]
  by_cases h0:c.num=0
  ·rw[if_pos h0,i1,i2];have c0:c=0:=Rat.num_eq_zero.1 h0;obtain⟨m1,m2⟩:=Zbb fW (show (0:Rat)<=c by rw[c0];decide);rw[m1,m2,c0,Rat.zero_mul,Rat.zero_mul,Rat.zero_add,Rat.zero_add];exact⟨rfl,rfl⟩
  ·rw[if_neg h0,Qas,Qau]
   dsimp only
   have JH:(0:Rat)<(D:Rat):=Rat.natCast_pos.2 hD
   by_cases hn:LN.ex D c<0
   ·have cn:c<0:=by
     have:((LN.ex D c:Int):Rat)<0:=by rw[<- Rat.intCast_zero];exact Rat.intCast_lt_intCast.2 hn
     rw[hc] at this;refine Rat.not_le.1 fun h=>?_
     have:=Rat.mul_nonneg h (Rat.le_of_lt JH)
     grind
    obtain⟨m1,m2⟩:=Zd6 fW cn;rw[if_pos hn,if_pos hn,m1,m2,Rat.intCast_add,Rat.intCast_add,i1,i2,Rat.intCast_mul,Rat.intCast_mul,hc,Rat.intCast_natCast,Rat.intCast_natCast,<- hx,<- hy];constructor<;>grind
   ·have cp:0<=c:=by
     refine Rat.not_lt.1 fun h=>hn ?_
     have h1:c*D<0:=by
      have:=Rat.mul_pos (show (0:Rat) < -c by grind) JH
      grind
     rw[<- hc,<- Rat.intCast_zero] at h1;exact Rat.intCast_lt_intCast.1 h1
    obtain⟨m1,m2⟩:=Zbb fW cp;rw[if_neg hn,if_neg hn,m1,m2,Rat.intCast_add,Rat.intCast_add,i1,i2,Rat.intCast_mul,Rat.intCast_mul,hc,Rat.intCast_natCast,Rat.intCast_natCast,<- hx,<- hy];constructor<;>grind
theorem Qg6{p n:Nat}(hp:p=2\/p∈Zba)(hn:n+1<=1056):xE p n<=xE p (n+1)/\yE p (n+1)<=yE p n:=by
 rcases hp with rfl|hp
 ·unfold xE yE;rw[show ((2:Nat):Int)=2 from rfl];simp only[if_true];exact⟨Rat.le_refl,Rat.le_refl⟩
 ·have h2:=(Zaw hp).2.1;have gh:¬ ((p:Nat):Int)=2:=by have:=(Zaw hp).1;omega
  have e1:=Zi9 p n;have e2:=Zi8 p n;have e3:=Zi9 p (n+1);have e4:=Zi8 p (n+1);unfold LN.hiL lf at e2 e4;rw[if_neg gh] at e2 e4;have hs:(2:Rat)^(n+1)=2^n*2:=Rat.pow_succ ..;constructor
  ·refine Zcn (n:=n+1) ?_;rw[e3,hs,<- Rat.mul_assoc,e1];have h3:((2*lgN p n:Nat):Rat)<=((lgN p (n+1):Nat):Rat):=Rat.natCast_le_natCast.2 (by rcases Zla hp hn with e | e<;>omega);rw[Rat.natCast_mul] at h3;have:((2:Nat):Rat)=2:=rfl
   grind
  ·refine Zcn (n:=n+1) ?_;rw[e4,hs,<- Rat.mul_assoc,e2];have h3:((lgN p (n+1)+1:Nat):Rat)<=((2*(lgN p n+1):Nat):Rat):=Rat.natCast_le_natCast.2 (by rcases Zla hp hn with e | e<;>omega);rw[Rat.natCast_mul] at h3;have:((2:Nat):Rat)=2:=rfl
   grind
theorem Zxe{n:Nat}(hn:n+1<=1056):∀ (ps:List Int) (l:List Rat),(∀ p∈ps,∃ q:Nat,p=q/\(q=2\/q∈Zba))->loE n ps l<=loE (n+1) ps l/\hiE (n+1) ps l<=hiE n ps l
 | [],_,_=>by simp[loE,hiE]
 | _::_,[],_=>by simp[loE,hiE]
 | p::ps,c::l,h=>by
  obtain⟨i1,i2⟩:=Zxe hn ps l fun q hq=>h q (List.mem_cons_of_mem _ hq)
  obtain⟨q,rfl,hq⟩:=h p List.mem_cons_self;obtain⟨u1,u2⟩:=Qg6 hq hn;simp only[loE,hiE];rcases Decidable.em (c<0) with hc|hc
  ·obtain⟨m1,m2⟩:=Zd6 (Zbl q n) hc;obtain⟨m3,m4⟩:=Zd6 (Zbl q (n+1)) hc;rw[m1,m2,m3,m4];have a1:=Rat.mul_le_mul_of_nonneg_left u1 (c := -c) (by grind);have a2:=Rat.mul_le_mul_of_nonneg_left u2 (c := -c) (by grind);constructor<;>grind
  ·have hc:=Rat.not_lt.1 hc;obtain⟨m1,m2⟩:=Zbb (Zbl q n) hc;obtain⟨m3,m4⟩:=Zbb (Zbl q (n+1)) hc;rw[m1,m2,m3,m4];have a1:=Rat.mul_le_mul_of_nonneg_left u1 hc;have a2:=Rat.mul_le_mul_of_nonneg_left u2 hc;constructor<;>grind
theorem Zxh(n:Nat):∀ (ps:List Int) (l:List Rat),loE n ps l<=hiE n ps l
 | [],_=>by simp[loE,hiE]
 | _::_,[]=>by simp[loE,hiE]
 | p::ps,c::l=>by
  have ih:=Zxh n ps l;simp only[loE,hiE];have h1:Zix (c*xE p n) (c*yE p n)<=Ziy (c*xE p n) (c*yE p n):=by
   unfold Zix Ziy;split<;>split<;>grind
  grind
theorem Zlj{n:Nat}{ps:List Int}{l:List Rat}(h:∀ p∈ps,∃ q:Nat,p=q/\(q=2\/q∈Zba)):∀ d,n+d<=1056->loE n ps l<=loE (n+d) ps l/\hiE (n+d) ps l<=hiE n ps l
 | 0,_=>⟨Rat.le_refl,Rat.le_refl⟩
 | d+1,hd=>by
  obtain⟨i1,i2⟩:=Zlj h (n:=n) (l:=l) d (by omega);obtain⟨j1,j2⟩:=Zxe (n:=n+d) (by omega) ps l h;exact⟨Rat.le_trans i1 j1,Rat.le_trans j2 i2⟩
def Zar (n:Nat) (ps:List Int) (l:List Rat):Int:=if 0<=loE n ps l then 1 else if hiE n ps l<=0 then -1 else 0
theorem Zto{n:Nat}(hn:n<=1056){p:Int}(hp:p∈Zir):LN.LogAt n p (lgN p n):=by
 obtain⟨q,rfl,hq⟩:=Zfv hp;exact Qb8 hq hn
theorem Zu0{n:Nat}(hn:n<=1056){ps:List Int}{l:List Rat}(h1:∀ p∈ps,p∈Zir):∀ x∈tlQ ps l,LN.LogAt n x.1 ((lf n) x.1):=fun x hx=>by
 have h:=(Zb9 (Qn l) ps l).subset (List.mem_map.2 ⟨x,hx,rfl⟩);exact Zto hn (h1 _ h)
theorem Zg6{ps:List Int}{l:List Rat}(h2:ps.Nodup):((tlQ ps l).map Prod.fst).Nodup:=(Zb9 (Qn l) ps l).nodup h2
theorem Zll(n:Nat)(ps:List Int)(l:List Rat):(0<=loE n ps l↔0<=LN.eLo (lf n) (tlQ ps l))/\(hiE n ps l<=0↔LN.eHi (lf n) (tlQ ps l)<=0):=by
 have hD:=LN.tden_pos' l;obtain⟨e1,e2⟩:=Zry hD n ps l fun q hq=>LN.tden_dvd hq
 have JH:(0:Rat)<(Qn l:Rat):=Rat.natCast_pos.2 hD;have h2:=Zl n;have hc:(0:Rat)<(Qn l:Rat)*2^n:=Rat.mul_pos JH h2;rw[Rat.mul_assoc] at e1 e2;unfold tlQ;generalize (Qn l:Rat)*2^n=c at *;refine⟨⟨fun h=>?_,fun h=>?_⟩,⟨fun h=>?_,fun h=>?_⟩⟩
 ·have h3:=Rat.mul_nonneg h (Rat.le_of_lt hc);rw[<- e1,<- Rat.intCast_zero] at h3;exact Rat.intCast_le_intCast.1 h3
 ·refine Rat.not_lt.1 fun h3=>?_
  have h4:=Rat.mul_pos (show 0 < -loE n ps l by grind) hc;have h5:((0:Int):Rat)<=_:=Rat.intCast_le_intCast.2 h;rw[e1,Rat.intCast_zero] at h5
  grind
 ·have h3:=Rat.mul_nonneg (show 0 <= -hiE n ps l by grind) (Rat.le_of_lt hc);have h4:hiE n ps l*c<=0:=by grind
  rw[<- e2,<- Rat.intCast_zero] at h4;exact Rat.intCast_le_intCast.1 h4
 ·refine Rat.not_lt.1 fun h3=>?_
  have h4:=Rat.mul_pos h3 hc;have h5:_<=((0:Int):Rat):=Rat.intCast_le_intCast.2 h;rw[e2,Rat.intCast_zero] at h5
  grind
theorem Zro{n:Nat}(hn:n<=1056){ps:List Int}{l:List Rat}(h1:∀ p∈ps,p∈Zir)(h2:ps.Nodup)(gh:tlQ ps l≠[])(h:0<=loE n ps l):LN.sz ps l=1:=by
 have h3:=(Zll n ps l).1.1 h;rw[LN.eLo_eq] at h3;exact LN.sign_low n _ (tlQ ps l) (Zu0 hn h1) (fun x hx=>Zqw hx) gh (Zg6 h2) (by omega)
theorem Zru{n:Nat}(hn:n<=1056){ps:List Int}{l:List Rat}(h1:∀ p∈ps,p∈Zir)(h2:ps.Nodup)(gh:tlQ ps l≠[])(h:hiE n ps l<=0):LN.sz ps l = -1:=by
 have h3:=(Zll n ps l).2.1 h;rw[LN.eHi_eq] at h3;exact LN.sign_high n _ (tlQ ps l) (Zu0 hn h1) (fun x hx=>Zqw hx) gh (Zg6 h2) (by omega)
theorem Zxr{n:Nat}(hn:n<=1056){ps:List Int}{l:List Rat}(h1:∀ p∈ps,p∈Zir)(h2:ps.Nodup)(gh:tlQ ps l≠[])(h:Zar n ps l≠0):Zar n ps l=LN.sz ps l:=by
 unfold Zar at h ⊢;split at h
 ·rename_i c
  rw[if_pos c,Zro hn h1 h2 gh c]
 ·rename_i c
  rw[if_neg c];split at h
  ·rename_i c2
   rw[if_pos c2,Zru hn h1 h2 gh c2]
  ·exact absurd rfl h
theorem Zp9{n d:Nat}{ps:List Int}{l:List Rat}(h1:∀ p∈ps,p∈Zir)(hd:n+d<=1056)(h:Zar n ps l≠0):Zar (n+d) ps l≠0:=by
 obtain⟨u1,u2⟩:=Zlj (n:=n) (ps:=ps) (l:=l) (fun p hp=>Zfv (h1 p hp)) d hd;unfold Zar at h ⊢;split
 ·decide
 ·split
  ·decide
  ·rename_i c1 c2
   split at h
   ·rename_i c3
    exact absurd (Rat.le_trans c3 u1) c1
   ·split at h
    ·rename_i c4
     exact absurd (Rat.le_trans u2 c4) c2
    ·exact h
end Go.Proofs.YtbielfplgbammaaGreatDoor

namespace Go.Proofs.YtbielfplgbammaaGreatDoor.LN
end Go.Proofs.YtbielfplgbammaaGreatDoor.LN

namespace Go.Proofs.YtbielfplgbammaaGreatDoor
open Go.RowKit
end Go.Proofs.YtbielfplgbammaaGreatDoor

namespace Go.Proofs.YtbielfplgbammaaGreatDoor
open Go.RowKit
end Go.Proofs.YtbielfplgbammaaGreatDoor

namespace Go.Proofs.YtbielfplgbammaaGreatDoor
open Go.RowKit
theorem Zxg(f:Int->Nat)(K:Nat)(l:List (Int×Int))(h:∀ x∈l,x.2.natAbs<=K):
  LN.eLo f l<=LN.sumT f l/\LN.sumT f l<=LN.eHi f l/\LN.eHi f l<=LN.sumT f l+(l.length*K:Nat)/\LN.sumT f l<=LN.eLo f l+(l.length*K:Nat):=by
 have h1:=LN.hiS_le f K l h;have h2:=LN.hiS_le f K (LN.negT l) (by
  intro x hx;obtain⟨y,hy,rfl⟩:=List.mem_map.1 hx;have:=h y hy
  show (-y.2).natAbs<=K
  omega)
 have e:(LN.negT l).length=l.length:=by simp[LN.negT]
 rw[e] at h2;have h3:∀ l:List (Int×Int),LN.loS f l<=LN.hiS f l:=by
  intro l
  induction l with
  | nil=>exact Nat.le_refl _
  | cons x l ih =>
   rw[LN.loS,LN.hiS];refine Nat.add_le_add (Nat.mul_le_mul_left _ ?_) ih;unfold LN.hiL;split<;>omega
 have h4:=h3 l;have h5:=h3 (LN.negT l);rw[LN.eLo_eq,LN.eHi_eq,LN.sumT_eq];omega
theorem Zqy{n d K:Nat}(hd:n+d<=1056):∀ tl:List (Int×Int),(∀ x∈tl,x.1∈Zir)->(∀ x∈tl,x.2.natAbs<=K) ->
  (LN.sumT (lf (n+d)) tl-2^d*LN.sumT (lf n) tl).natAbs<=tl.length*(K*2^d)
 | [],_,_=>by simp[LN.sumT]
 | x::tl,h,hk=>by
  have ih:=Zqy hd tl (fun y hy=>h y (List.mem_cons_of_mem _ hy)) (fun y hy=>hk y (List.mem_cons_of_mem _ hy));have hx:=hk x List.mem_cons_self;obtain⟨q,hq,Gv⟩:=Zfv (h x List.mem_cons_self);have hc:=Zhy Gv d (n:=n) hd;have hm:=Nat.div_add_mod (lgN (q:Int) (n+d)) (2^d);have H7:=Nat.mod_lt (lgN (q:Int) (n+d)) (Nat.two_pow_pos d);rw[hc] at hm;generalize hr:lgN (q:Int) (n+d)%2^d=r at *;have e:LN.sumT (lf (n+d)) (x::tl)-2^d*LN.sumT (lf n) (x::tl)=x.2*(r:Int)+(LN.sumT (lf (n+d)) tl-2^d*LN.sumT (lf n) tl):=by
   simp only[LN.sumT];have e1:((lf (n+d) x.1:Nat):Int)=2^d*((lf n x.1:Nat):Int)+(r:Int):=by
    unfold lf;rw[hq,<- hm,Int.natCast_add,Int.natCast_mul,Int.natCast_pow];rfl
   rw[e1]
   grind
  rw[e,List.length_cons,Nat.succ_mul];have h1:(x.2*(r:Int)).natAbs<=K*2^d:=by
   rw[Int.natAbs_mul,Int.natAbs_natCast];exact Nat.mul_le_mul hx (Nat.le_of_lt H7)
  have h2:=Int.natAbs_add_le (x.2*(r:Int)) (LN.sumT (lf (n+d)) tl-2^d*LN.sumT (lf n) tl);omega
theorem Ztf{T1 T0:Int}{m W K:Nat}(h:(T1-m*T0).natAbs<=W)(h0:T0.natAbs<=K):T1.natAbs<=W+m*K:=by
 have h1:((m:Int)*T0).natAbs<=m*K:=by
  rw[Int.natAbs_mul,Int.natAbs_natCast];exact Nat.mul_le_mul_left _ h0
 have h2:T1.natAbs<=(T1-m*T0).natAbs+((m:Int)*T0).natAbs:=by
  have:=Int.natAbs_add_le (T1-m*T0) (m*T0)
  rwa [Int.sub_add_cancel] at this
 omega
def stC (W:Nat) (s:Nat×Nat×Nat):Option (Nat×Nat×Nat) :=
 let l:=s.1*s.1/2^W
 let q:=s.2.1*s.2.1
 let h:=if q/2^W*2^W=q then q/2^W else q/2^W+1
 if 2^(W+1)<=l then some (l/2,(h+1)/2,2*s.2.2+1) else if 2^(W+1)<=h then none else some (l,h,2*s.2.2)
def Ziv (W p:Nat):Nat->Option (Nat×Nat×Nat)
 | 0=>some (p*2^(W-(blN p-1)),p*2^(W-(blN p-1)),blN p-1)
 | n+1=>(Ziv W p n).bind (stC W)
def hiC (W g:Nat):Nat:=if g*g/2^W*2^W=g*g then g*g/2^W else g*g/2^W+1
theorem Zhf{W:Nat}{s t:Nat×Nat×Nat}(h:stC W s=some t):
  (2^(W+1)<=s.1*s.1/2^W/\t=(s.1*s.1/2^W/2,(hiC W s.2.1+1)/2,2*s.2.2+1))\/(¬ 2^(W+1)<=s.1*s.1/2^W/\¬ 2^(W+1)<=hiC W s.2.1/\t=(s.1*s.1/2^W,hiC W s.2.1,2*s.2.2)):=by
 have e:stC W s=if 2^(W+1)<=s.1*s.1/2^W then some (s.1*s.1/2^W/2,(hiC W s.2.1+1)/2,2*s.2.2+1) else if 2^(W+1)<=hiC W s.2.1 then none else some (s.1*s.1/2^W,hiC W s.2.1,2*s.2.2):=rfl
 rw[e] at h
 by_cases c1:2^(W+1)<=s.1*s.1/2^W
 ·rw[if_pos c1] at h;exact .inl ⟨c1,(Option.some.inj h).symm⟩
 ·rw[if_neg c1] at h
  by_cases c2:2^(W+1)<=hiC W s.2.1
  ·rw[if_pos c2] at h;cases h
  ·rw[if_neg c2] at h;exact .inr ⟨c1,c2,(Option.some.inj h).symm⟩
theorem Zkx{W p:Nat}{s:Nat×Nat×Nat}:∀ {n:Nat} (d:Nat),Ziv W p (n+d)=some s->∃ t,Ziv W p n=some t/\t.2.2=s.2.2/2^d
 | n,0,h=>⟨s,h,by simp⟩
 | n,d+1,h=>by
  have h2:(Ziv W p (n+d)).bind (stC W)=some s:=h;obtain⟨u,hu,hs⟩:=Option.bind_eq_some_iff.1 h2;obtain⟨t,ht,he⟩:=Zkx d hu;refine⟨t,ht,?_⟩;have h3:u.2.2=s.2.2/2:=by
   rcases Zhf hs with⟨-,rfl⟩|⟨-,-,rfl⟩<;>dsimp only<;>omega
  rw[he,h3,Nat.div_div_eq_div_mul,Nat.pow_succ,Nat.mul_comm]
theorem Zvt{W p:Nat}{n:Nat}{s:Nat×Nat×Nat}(h:Ziv W p (n+1)=some s):∃ t,Ziv W p n=some t/\stC W t=some s:=Option.bind_eq_some_iff.1 h
theorem Zvs{W p:Nat}(hp:0<p)(hW:blN p<=W+1):∀ (n:Nat) (s:Nat×Nat×Nat),Ziv W p n=some s->s.1<=2^(W+1)/\s.2.1<=2^(W+1)
 | 0,s,h=>by
  simp only[Ziv,Option.some.injEq] at h;subst h;have h1:=Zj8 p;have h2:0<blN p:=by unfold blN;rw[if_neg (by omega)];omega
  have h3:p*2^(W-(blN p-1))<=2^blN p*2^(W-(blN p-1)):=Nat.mul_le_mul_right _ (Nat.le_of_lt h1);rw[<- Nat.pow_add,show blN p+(W-(blN p-1))=W+1 by omega] at h3;exact⟨h3,h3⟩
 | n+1,s,h=>by
  obtain⟨t,ht,hs⟩:=Zvt h;obtain⟨h1,h2⟩:=Zvs hp hW n t ht;obtain⟨l,g,o⟩:=t
  dsimp only at h1 h2
  have h0:=Nat.two_pow_pos W;have e1:(2:Nat)^(W+1)=2*2^W:=by rw[Nat.pow_succ,Nat.mul_comm]
  have sq:∀ x,x<=2^(W+1)->x*x<=4*2^W*2^W:=fun x hx=>by
   have:=Nat.mul_le_mul hx hx
   rw[e1] at this;refine Nat.le_trans this (Nat.le_of_eq ?_);rw[Nat.mul_mul_mul_comm,<- Nat.mul_assoc]
  have dv:∀ x,x<=2^(W+1)->x*x/2^W<=4*2^W/\(x*x/2^W*2^W≠x*x->x*x/2^W+1<=4*2^W):=fun x hx=>by
   have h3:=sq x hx;have h4:x*x/2^W<=4*2^W:=Nat.div_le_of_le_mul (by rw[Nat.mul_comm (2^W)];exact h3);refine⟨h4,fun gh=>?_⟩;rcases Nat.lt_or_ge (x*x/2^W) (4*2^W) with h5|h5
   ·exact h5
   ·have h6:x*x/2^W=4*2^W:=Nat.le_antisymm h4 h5;have h7:=Nat.div_mul_le_self (x*x) (2^W);rw[h6] at h7 gh;exact absurd (Nat.le_antisymm h7 h3) gh
  obtain⟨dl,-⟩:=dv l h1;obtain⟨dg,dg2⟩:=dv g h2;have hh:hiC W g<=4*2^W:=by
   unfold hiC;split
   ·exact dg
   ·rename_i gh;exact dg2 gh
  rcases Zhf hs with⟨c1,rfl⟩|⟨c1,c2,rfl⟩<;>dsimp only at * <;> rw[e1] at * <;> omega
theorem Zsy:∀ p∈Vj,((Ziv 160 p.toNat 64).map fun s=>s.2.2)=some (lgN p 64):=by decide +kernel
theorem Qc8{p:Int}(hp:p∈Vj){n:Nat}(hn:n<=64):∃ s,Ziv 160 p.toNat n=some s/\s.2.2=lgN p n:=by
 have h:=Zsy p hp;obtain⟨s,hs,he⟩:=Option.map_eq_some_iff.1 h;obtain⟨d,hd⟩:∃ d,64=n+d:=⟨64-n,by omega⟩;rw[hd] at hs he;obtain⟨t,ht,e⟩:=Zkx d hs;obtain⟨q,rfl,hq⟩:=Zfv (Za8 hp);refine⟨t,ht,?_⟩;rw[e,he,Zhy hq d (by omega)]
theorem Zgo{n m:Nat}(h:n<2^(32*m))(hm:m<=1000000):Vf n:=by
 rw[Nat.pow_mul] at h;exact Nat.le_trans (Zl9 h) hm
theorem Zq5{W p:Nat}:∀ (n:Nat) (s:Nat×Nat×Nat),Ziv W p n=some s->s.2.2<2^(n+blN p)
 | 0,s,h=>by
  simp only[Ziv,Option.some.injEq] at h;subst h;have:blN p<2^blN p:=Nat.lt_two_pow_self
  rw[Nat.zero_add]
  show blN p-1<_
  omega
 | n+1,s,h=>by
  obtain⟨t,ht,hs⟩:=Zvt h;have ih:=Zq5 n t ht;rw[show n+1+blN p=n+blN p+1 by omega,Nat.pow_succ];rcases Zhf hs with⟨-,rfl⟩|⟨-,-,rfl⟩<;>dsimp only<;>omega
theorem Zvr{W p n k:Nat}{s:Nat×Nat×Nat}(h:Ziv W p n=some s)(hk:k<=n):∃ t,Ziv W p k=some t:=by
 obtain⟨d,rfl⟩:∃ d,n=k+d:=⟨n-k,by omega⟩;obtain⟨t,ht,-⟩:=Zkx d h;exact⟨t,ht⟩
structure StL (W l g o:Nat):Prop where
 l1:Vf l
 l2:Vf g
 l3:Vf o
 l4:Vf (l*l)
 l5:Vf (g*g)
 l6:Vf (l*l/2^W)
 l7:Vf (g*g/2^W)
 l8:Vf (g*g/2^W*2^W)
 l9:Vf (hiC W g)
 la:Vf (o*2^1)
 lb:Vf (hiC W g+1)
theorem stL{W l g o q:Nat}(hW:W<=10000)(h1:l<=2^(W+1))(h2:g<=2^(W+1))(h3:o<2^q)(hq:q<=1000):StL W l g o:=by
 obtain⟨m,hm⟩:∃ m,m=1000:=⟨_,rfl⟩;have A7:∀ x,x<=2^(W+1)->x*x<=2^(2*W+2):=fun x hx=>by
  have:=Nat.mul_le_mul hx hx
  rwa [<- Nat.pow_add,show W+1+(W+1)=2*W+2 by omega] at this
 have hp:∀ a,a<=31999->2^a<2^(32*m):=fun a ha=>Nat.pow_lt_pow_right (by decide) (by omega)
 have p1:=hp (W+1) (by omega);have p2:=hp (2*W+2) (by omega);have p3:=hp (q+1) (by omega);have q1:=A7 l h1;have q2:=A7 g h2;have d1:=Nat.div_le_self (l*l) (2^W);have d2:=Nat.div_le_self (g*g) (2^W);have d3:=Nat.div_mul_le_self (g*g) (2^W);have d4:hiC W g<=g*g+1:=by unfold hiC;split<;>omega
 have p4:2^(2*W+2)+2<2^(32*m):=by
  have:=hp (2*W+3) (by omega)
  have h4:2^(2*W+3)=2^(2*W+2)*2:=Nat.pow_succ ..;have h5:2^2<=2^(2*W+2):=Nat.pow_le_pow_right (by decide) (by omega);omega
 have h6:o*2^1<2^(q+1):=by rw[Nat.pow_succ 2 q];omega
 have f:∀ x,x<2^(32*m)->Vf x:=fun x hx=>Zgo hx (by omega)
 generalize (2:Nat)^(32*m)=Z at *;generalize (2:Nat)^(q+1)=Z1 at *;generalize (2:Nat)^q=Z2 at *;refine⟨f _ (by omega),f _ (by omega),f _ (by omega),f _ (by omega),f _ (by omega),f _ (by omega),f _ (by omega),f _ (by omega),f _ (by omega),f _ (by omega),f _ (by omega)⟩
theorem Qgi{W g:Nat}(h:g*g/2^W*2^W=g*g):hiC W g=g*g/2^W:=by unfold hiC;rw[if_pos h]
theorem Qgh{W g:Nat}(h:¬ g*g/2^W*2^W=g*g):hiC W g=g*g/2^W+1:=by unfold hiC;rw[if_neg h]
theorem Qfi(W l g o:Nat):stC W (l,g,o)=if 2^(W+1)<=l*l/2^W then some (l*l/2^W/2,(hiC W g+1)/2,2*o+1) else if 2^(W+1)<=hiC W g then none else some (l*l/2^W,hiC W g,2*o):=rfl
theorem Qah(x:Nat):x/2^1=x/2:=by rw[Nat.pow_one]
theorem Zzz(w:World)(p n W:Nat)(hp:0<p)(Gl:p<128)(hn:n<=900)(hW:blN p<=W+1)(hW0:0<W)(ID:W<=10000)(sF:Nat×Nat×Nat)(hs:Ziv W p n=some sF):
  Calls Tryz.prog 147 #[.int .i64 p,.int .i64 n,.int .i64 W] w fun e w'=>∃ a c,e = .returned (.tuple #[.slice a (wN sF.2.2).length c,.bool true])/\IsX w' a c sF.2.2/\Bw_ w w':=by
 have Cl:=hd_ (fun V r1 s1 r2 s2 x y (k1:IsX V r1 s1 x) (k2:IsX V r2 s2 y) (l1:Vf x) (l2:Vf y)=>Zak V r1 r2 s1 s2 x y k1.1 k2.1 l1 l2);have Cm:=hd_ (fun V r1 s1 r2 s2 x y (k1:IsX V r1 s1 x) (k2:IsX V r2 s2 y) (l1:Vf x) (l2:Vf y)=>Zen V r1 r2 s1 s2 x y k1.1 k2.1 l1 l2);have jX:=hd_ (fun V r1 s1 r2 s2 x y (k1:IsX V r1 s1 x) (k2:IsX V r2 s2 y) (l1:Vf x)=>Za2 V r1 r2 s1 s2 x y k1.1 k2.1 (Nat.le_trans l1 (by decide)));have jU:=hd_ (fun V r1 s1 x b (hb:b<=20000) (k1:IsX V r1 s1 x) (l1:Vf x)=>Zks V r1 s1 x b (b/32) (b%32) (by omega) (Nat.mod_lt _ (by decide)) k1.1 l1 (by omega));have J5:=hd_ (fun V r1 s1 x b (hb:b<=20000) (h0:0<b) (k1:IsX V r1 s1 x) (l1:Vf x)=>Zy4 V r1 s1 x b (b/32) (b%32) (by omega) (Nat.mod_lt _ (by decide)) h0 (by omega) k1.1 k1.2 l1);have dZ:=hd_ (fun V r1 s1 x (k1:IsX V r1 s1 x) (l1:Vf x)=>jU.o V r1 s1 x 1 (by decide) k1 l1);have j5:=hd_ (fun V r1 s1 x (k1:IsX V r1 s1 x) (l1:Vf x)=>J5.o V r1 s1 x 1 (by decide) (by decide) k1 l1);simp only[Qah] at j5;rw[show (-((1:Nat):Int)) = -1 from rfl] at j5;rw[show ((1:Nat):Int)=1 from rfl] at dZ;unfold Yk at Cl Cm jU J5 dZ j5;have eV:blN p<=7:=Zx4 (by omega);have Gr:0<blN p:=by unfold blN;rw[if_neg (by omega)];omega
 have BT:=hd_ (fun k (hk:k<=n)=>Zvr hs hk);have J6:=hd_ (fun k s t (h1:Ziv W p k=some s) (h2:Ziv W p (k+1)=some t)=>by
  have h3:(Ziv W p k).bind (stC W)=some t:=h2;rw[h1] at h3;exact(show stC W s=some t from h3))
 have j4:Hid (∀ k s,k<=n->Ziv W p k=some s->StL W s.1 s.2.1 s.2.2):=fun k s hk h=>by
  have h1:=Zvs hp hW k s h;have h2:=Zq5 k s h;exact stL ID h1.1 h1.2 h2 (by omega)
 have lx:Vf p:=Zgo (m:=1) (Nat.lt_of_lt_of_le Gl (by decide)) (by decide);have l1:Vf 1:=lx.le hp;have lT:Hid (Vf (2^(W+1))):=Zgo (m:=W+1) (Nat.pow_lt_pow_right (by decide) (by omega)) (by omega);have H0:Hid (Ziv W p 0=some (p*2^(W-(blN p-1)),p*2^(W-(blN p-1)),blN p-1)):=rfl;have j9:=hd_ hs;have Fb:=hd_ (fun V=>Zk1 V p (by omega));have F0:=hd_ (fun V=>Zk1 V (blN p-1) (by omega));unfold Yk at Fb F0;have oA:=hd_ (fun V r1 s1 (k1:IsX V r1 s1 p)=>Zil V r1 s1 p k1.1 lx);have fg:IntKind.u64.wrap (p:Int)=p:=Qq _ (by omega);obtain⟨k0,dR⟩:∃ k,blN p-1=k:=⟨_,rfl⟩;have fS:IntKind.i64.wrap ((blN p:Int)-1)=k0:=by rw[show (blN p:Int)-1=(k0:Int) by omega];exact iw_ _ (by omega)
 have Da:IntKind.u64.wrap (k0:Int)=k0:=Qq _ (by omega);have Fk:IntKind.i64.wrap ((W:Int)-k0)=((W-k0:Nat):Int):=by rw[show (W:Int)-k0=((W-k0:Nat):Int) by omega];exact iw_ _ (by omega)
 have lF:IntKind.i64.wrap ((W:Int)+1)=((W+1:Nat):Int):=by rw[<- Int.natCast_succ];exact iw_ _ (by omega)
 have Bm:IntKind.i64.wrap (-(W:Int)) = -(W:Int):=iw_ _ (by omega);have hZ:W-k0<=20000:=by omega
 rw[dR] at H0 F0;have B:=hd_ (Below.refl w.heap.size w);clear hs dR hW eV Gl Gr;go_enter Tryz.func147,Tryz.ntmps147;go_wp2_with fail;refine cm_ (Fb.o _) ?_;rintro e_ v2_1 ⟨aXX,cXX,rfl,hi_,hb_⟩;have XX:=hd_ hi_;replace B:=bt_ B hb_;clear hb_ hi_;go_wp2_with fail;refine cm_ (oA.o _ _ _ XX.o) ?_;rintro e_ v2_2 ⟨rfl,hb_⟩;replace XX:=hd_ (XX.o.below hb_ nr_);replace B:=bt_ B hb_;clear hb_;clear oA;go_wp2_with fail;refine cm_ (F0.o _) ?_;rintro e_ v2_3 ⟨aXO,cXO,rfl,hi_,hb_⟩;have XO:=hd_ hi_;replace XX:=hd_ (XX.o.below hb_ nr_);replace B:=bt_ B hb_;clear hb_ hi_;clear Fb F0;go_wp2_with fail;refine cm_ (jU.o _ _ _ _ _ hZ XX.o lx) ?_;rintro e_ v2_4 ⟨aXL,cXL,rfl,hi_,hb_⟩;have XL:=hd_ hi_;replace XX:=hd_ (XX.o.below hb_ nr_);replace XO:=hd_ (XO.o.below hb_ nr_);replace B:=bt_ B hb_;clear hb_ hi_;clear XX;go_wp2_with fail;have gK:=(Below.refl v2_4.heap.size v2_4).alloc nr_ (.cells #[.int .u32 1] 131);have X1:=hd_ (IsX.one (Kk v2_4 #[.int .u32 1] 131 _ rfl));replace XO:=hd_ (XO.o.below gK nr_);replace XL:=hd_ (XL.o.below gK nr_);replace B:=bt_ B gK;clear gK;have m8:=hd_ (jU.o _ _ _ 1 (W+1) (by omega) X1.o l1);rw[Vs,Nat.one_mul] at m8;refine cm_ (m8.o) ?_;rintro e_ v2_5 ⟨aXT,cXT,rfl,hi_,hb_⟩;have XT:=hd_ hi_;replace XO:=hd_ (XO.o.below hb_ nr_);replace XL:=hd_ (XL.o.below hb_ nr_);replace X1:=hd_ (X1.o.below hb_ nr_);replace B:=bt_ B hb_;clear hb_ hi_;clear X1;clear m8;go_wp2_with fail;clear fg fS Da Fk lF lx l1 hZ;generalize p*2^(W-k0)=l0 at *
 go_loopw [10,11,12,35] (fun ov lv hv iv wr=>∃ (i l g o:Nat) (oa la ga:OA_) (oc lc gc:Nat),i<=n/\ov = .slice oa (wN o).length oc/\lv = .slice la (wN l).length lc/\hv = .slice ga (wN g).length gc/\iv = .int .i64 i/\Hid (Ziv W p i=some (l,g,o))/\Hid (IsX wr oa oc o)/\Hid (IsX wr la lc l)/\Hid (IsX wr ga gc g)/\Hid (IsX wr aXT cXT (2^(W+1)))/\Hid (Bw_ w wr)) (fun _ _ _ iv _=>n-(intOf iv).toNat)
 case atStart=>exact⟨0,l0,l0,k0,_,_,_,_,_,_,Nat.zero_le _,rfl,rfl,rfl,rfl,H0,XO,XL,XL,XT,B⟩
 case round =>
  obtain⟨i,l,g,o,oa,la,ga,oc,lc,gc,hi,rfl,rfl,rfl,rfl,HR,YO,YL,YG,YT,D⟩:=hrel;clear XO XL XT B H0;have B:=D;clear D
  by_cases H7:i<n
  ·have gi:(i:Int)<n:=by omega
   obtain⟨t,ht⟩:=BT.o (i+1) H7;have GZ:=J6.o i _ _ HR.o ht;have Ht:=hd_ ht;have HL:=hd_ (j4.o i _ hi HR.o);rw[Qfi] at GZ;have gR:=hd_ GZ;clear ht GZ HR;have Dk:IntKind.i64.wrap ((i:Int)+1)=((i+1:Nat):Int):=by rw[<- Int.natCast_succ];exact iw_ _ (by omega)
   go_wp2_with fail;refine cm_ (Cl.o _ _ _ _ _ _ _ YL.o YL.o HL.o.l1 HL.o.l1) ?_;rintro e_ v6_1 ⟨aZ1,cZ1,rfl,hi_,hb_⟩;have Z1:=hd_ hi_;replace YO:=hd_ (YO.o.below hb_ nr_);replace YL:=hd_ (YL.o.below hb_ nr_);replace YG:=hd_ (YG.o.below hb_ nr_);replace YT:=hd_ (YT.o.below hb_ nr_);replace B:=bt_ B hb_;clear hb_ hi_;go_wp2_with fail;refine cm_ (J5.o _ _ _ _ W (by omega) hW0 Z1.o HL.o.l4) ?_;rintro e_ v6_2 ⟨aZL,cZL,rfl,hi_,hb_⟩;have ZL:=hd_ hi_;replace YO:=hd_ (YO.o.below hb_ nr_);replace YL:=hd_ (YL.o.below hb_ nr_);replace YG:=hd_ (YG.o.below hb_ nr_);replace YT:=hd_ (YT.o.below hb_ nr_);replace Z1:=hd_ (Z1.o.below hb_ nr_);replace B:=bt_ B hb_;clear hb_ hi_;clear Z1;clear YL;go_wp2_with fail;refine cm_ (Cl.o _ _ _ _ _ _ _ YG.o YG.o HL.o.l2 HL.o.l2) ?_;rintro e_ v6_3 ⟨aZQ,cZQ,rfl,hi_,hb_⟩;have ZQ:=hd_ hi_;replace YO:=hd_ (YO.o.below hb_ nr_);replace YG:=hd_ (YG.o.below hb_ nr_);replace YT:=hd_ (YT.o.below hb_ nr_);replace ZL:=hd_ (ZL.o.below hb_ nr_);replace B:=bt_ B hb_;clear hb_ hi_;clear YG;go_wp2_with fail;refine cm_ (J5.o _ _ _ _ W (by omega) hW0 ZQ.o HL.o.l5) ?_;rintro e_ v6_4 ⟨aZH,cZH,rfl,hi_,hb_⟩;have ZH:=hd_ hi_;replace YO:=hd_ (YO.o.below hb_ nr_);replace YT:=hd_ (YT.o.below hb_ nr_);replace ZL:=hd_ (ZL.o.below hb_ nr_);replace ZQ:=hd_ (ZQ.o.below hb_ nr_);replace B:=bt_ B hb_;clear hb_ hi_;go_wp2_with fail;refine cm_ (jU.o _ _ _ _ W (by omega) ZH.o HL.o.l7) ?_;rintro e_ v6_5 ⟨aZ2,cZ2,rfl,hi_,hb_⟩;have Z2:=hd_ hi_;replace YO:=hd_ (YO.o.below hb_ nr_);replace YT:=hd_ (YT.o.below hb_ nr_);replace ZL:=hd_ (ZL.o.below hb_ nr_);replace ZQ:=hd_ (ZQ.o.below hb_ nr_);replace ZH:=hd_ (ZH.o.below hb_ nr_);replace B:=bt_ B hb_;clear hb_ hi_;go_wp2_with fail;refine cm_ (jX.o _ _ _ _ _ _ _ Z2.o ZQ.o HL.o.l8) ?_;rintro e_ v6_6 ⟨rfl,hb_⟩;replace YO:=hd_ (YO.o.below hb_ nr_);replace YT:=hd_ (YT.o.below hb_ nr_);replace ZL:=hd_ (ZL.o.below hb_ nr_);replace ZQ:=hd_ (ZQ.o.below hb_ nr_);replace ZH:=hd_ (ZH.o.below hb_ nr_);replace Z2:=hd_ (Z2.o.below hb_ nr_);replace B:=bt_ B hb_;clear hb_;clear Z2;clear ZQ;have fH:=Zxv (x:=g*g/2^W*2^W) (y:=g*g);generalize fp:Vt (g*g/2^W*2^W) (g*g)=cv at *;clear fp
   go_upto_if 55 with fail
   go_cut [12] from 36 to 80 (fun hv wx=>∃ (ga:OA_) (gc:Nat),hv = .slice ga (wN (hiC W g)).length gc/\Hid (IsX wx ga gc (hiC W g))/\Hid (Bw_ v6_6 wx))
   case first =>
    by_cases heq:g*g/2^W*2^W=g*g
    ·rw[decide_eq_true heq] at fH;have gG:cv=0:=eq_of_beq fH;have He:=hd_ (Qgi heq);subst gG;clear heq fH;go_wp2_with fail
     go_meet
     exact⟨_,_,by rw[He.o],by rw[He.o];exact ZH,Below.refl _ _⟩
    ·rw[decide_eq_false heq] at fH;have gG:(cv != 0)=true:=by rw[bne,fH];rfl
     have Gb:¬ cv=0:=fun h=>by rw[h] at fH;exact absurd fH (by decide)
     have He:=hd_ (Qgh heq);have l1:Vf 1:=HL.o.lb.le (by omega);clear heq;go_wp2_with fail;have gK:=(Below.refl v6_6.heap.size v6_6).alloc nr_ (.cells #[.int .u32 1] 131);have X1:=hd_ (IsX.one (Kk v6_6 #[.int .u32 1] 131 _ rfl));have nY:=hd_ (ZH.o.below gK nr_);have HP:=hd_ (Cm.o _ _ _ _ _ _ _ nY.o X1.o HL.o.l7 l1);rw[Vs] at HP;refine cm_ HP.o ?_;rintro e_ y1 ⟨a1,c1,rfl,hi_,hb_⟩;have Hx:=hd_ hi_;have Hb:=hd_ (bv_ gK hb_);clear hi_ hb_ gK HP X1 nY;go_wp2_with fail
     go_meet
     exact⟨_,_,by rw[He.o],by rw[He.o];exact Hx,Hb⟩
   case rest =>
   obtain⟨ga2,gc2,rfl,ZG,hBc⟩:=hcut;have YO:=hd_ (YO.o.below hBc.o nr_);have YT:=hd_ (YT.o.below hBc.o nr_);have ZL:=hd_ (ZL.o.below hBc.o nr_);have B:=bt_ B hBc.o;clear hBc ZH fH;go_wp2_with fail;refine cm_ (dZ.o _ _ _ _ YO.o HL.o.l3) ?_;rintro e_ v6_21 ⟨aZO,cZO,rfl,hi_,hb_⟩;have ZO:=hd_ hi_;replace YO:=hd_ (YO.o.below hb_ nr_);replace YT:=hd_ (YT.o.below hb_ nr_);replace ZL:=hd_ (ZL.o.below hb_ nr_);replace ZG:=hd_ (ZG.o.below hb_ nr_);replace B:=bt_ B hb_;clear hb_ hi_;clear YO;go_wp2_with fail;refine cm_ (jX.o _ _ _ _ _ _ _ ZL.o YT.o HL.o.l6) ?_;rintro e_ v6_22 ⟨rfl,hb_⟩;replace YT:=hd_ (YT.o.below hb_ nr_);replace ZL:=hd_ (ZL.o.below hb_ nr_);replace ZG:=hd_ (ZG.o.below hb_ nr_);replace ZO:=hd_ (ZO.o.below hb_ nr_);replace B:=bt_ B hb_;clear hb_;generalize fp:Vt (l*l/2^W) (2^(W+1))=cv at *;have bF:=Zcs (x:=l*l/2^W) (y:=2^(W+1));rw[fp] at bF;clear fp;have GZ:=gR.o;clear gR
   by_cases h1:2^(W+1)<=l*l/2^W
   ·rw[if_pos h1] at GZ;obtain rfl:=Option.some.inj GZ;have gG:0<=cv:=bF.2 h1;have l1:Vf 1:=HL.o.lb.le (by omega);clear GZ h1 bF;go_wp2_with fail;have gK:=(Below.refl v6_22.heap.size v6_22).alloc nr_ (.cells #[.int .u32 1] 131);have X1:=hd_ (IsX.one (Kk v6_22 #[.int .u32 1] 131 _ rfl));replace YT:=hd_ (YT.o.below gK nr_);replace ZL:=hd_ (ZL.o.below gK nr_);replace ZG:=hd_ (ZG.o.below gK nr_);replace ZO:=hd_ (ZO.o.below gK nr_);replace B:=bt_ B gK;clear gK;have HP:=hd_ (Cm.o _ _ _ _ _ _ _ ZO.o X1.o HL.o.la l1);rw[Vs] at HP;refine cm_ (HP.o) ?_;rintro e_ v8_41 ⟨aZP,cZP,rfl,hi_,hb_⟩;have ZP:=hd_ hi_;replace YT:=hd_ (YT.o.below hb_ nr_);replace ZL:=hd_ (ZL.o.below hb_ nr_);replace ZG:=hd_ (ZG.o.below hb_ nr_);replace ZO:=hd_ (ZO.o.below hb_ nr_);replace X1:=hd_ (X1.o.below hb_ nr_);replace B:=bt_ B hb_;clear hb_ hi_;clear X1;clear ZO;clear HP;go_wp2_with fail;refine cm_ (j5.o _ _ _ _ ZL.o HL.o.l6) ?_;rintro e_ v8_42 ⟨aZM,cZM,rfl,hi_,hb_⟩;have ZM:=hd_ hi_;replace YT:=hd_ (YT.o.below hb_ nr_);replace ZL:=hd_ (ZL.o.below hb_ nr_);replace ZG:=hd_ (ZG.o.below hb_ nr_);replace ZP:=hd_ (ZP.o.below hb_ nr_);replace B:=bt_ B hb_;clear hb_ hi_;clear ZL;go_wp2_with fail;have gK:=(Below.refl v8_42.heap.size v8_42).alloc nr_ (.cells #[.int .u32 1] 131);have X1:=hd_ (IsX.one (Kk v8_42 #[.int .u32 1] 131 _ rfl));replace YT:=hd_ (YT.o.below gK nr_);replace ZG:=hd_ (ZG.o.below gK nr_);replace ZP:=hd_ (ZP.o.below gK nr_);replace ZM:=hd_ (ZM.o.below gK nr_);replace B:=bt_ B gK;clear gK;have HP:=hd_ (Cm.o _ _ _ _ _ _ _ ZG.o X1.o HL.o.l9 l1);rw[Vs] at HP;refine cm_ (HP.o) ?_;rintro e_ v8_43 ⟨aZN,cZN,rfl,hi_,hb_⟩;have ZN:=hd_ hi_;replace YT:=hd_ (YT.o.below hb_ nr_);replace ZG:=hd_ (ZG.o.below hb_ nr_);replace ZP:=hd_ (ZP.o.below hb_ nr_);replace ZM:=hd_ (ZM.o.below hb_ nr_);replace X1:=hd_ (X1.o.below hb_ nr_);replace B:=bt_ B hb_;clear hb_ hi_;clear X1;clear ZG;clear HP;go_wp2_with fail;refine cm_ (j5.o _ _ _ _ ZN.o HL.o.lb) ?_;rintro e_ v8_44 ⟨aZK,cZK,rfl,hi_,hb_⟩;have ZK:=hd_ hi_;replace YT:=hd_ (YT.o.below hb_ nr_);replace ZP:=hd_ (ZP.o.below hb_ nr_);replace ZM:=hd_ (ZM.o.below hb_ nr_);replace ZN:=hd_ (ZN.o.below hb_ nr_);replace B:=bt_ B hb_;clear hb_ hi_;clear ZN;go_wp2_with fail;have ho:o*2^1+1=2*o+1:=by rw[Nat.pow_one];omega
    rw[ho] at ZP ⊢
    go_roundw
    case rel=>exact⟨i+1,l*l/2^W/2,(hiC W g+1)/2,2*o+1,_,_,_,_,_,_,by omega,rfl,rfl,rfl,by go_num,Ht,ZP,ZM,ZK,YT,B⟩
    case measure=>simp[intOf];omega
   ·rw[if_neg h1] at GZ
    by_cases h2:2^(W+1)<=hiC W g
    ·rw[if_pos h2] at GZ;cases GZ
    rw[if_neg h2] at GZ;obtain rfl:=Option.some.inj GZ;have gG:¬ 0<=cv:=fun h=>h1 (bF.1 h)
    clear GZ h1 bF;go_wp2_with fail;refine cm_ (jX.o _ _ _ _ _ _ _ ZG.o YT.o HL.o.l9) ?_;rintro e_ v8_61 ⟨rfl,hb_⟩;replace YT:=hd_ (YT.o.below hb_ nr_);replace ZL:=hd_ (ZL.o.below hb_ nr_);replace ZG:=hd_ (ZG.o.below hb_ nr_);replace ZO:=hd_ (ZO.o.below hb_ nr_);replace B:=bt_ B hb_;clear hb_;generalize fp:Vt (hiC W g) (2^(W+1))=bN at *;have bF:=Zcs (x:=hiC W g) (y:=2^(W+1));rw[fp] at bF;have Gb:¬ 0<=bN:=fun h=>h2 (bF.1 h)
    clear fp bF h2;go_wp2_with fail;have ho:o*2^1=2*o:=by rw[Nat.pow_one];omega
    rw[ho] at ZO ⊢
    go_roundw
    case rel=>exact⟨i+1,l*l/2^W,hiC W g,2*o,_,_,_,_,_,_,by omega,rfl,rfl,rfl,by go_num,Ht,ZO,ZL,ZG,YT,B⟩
    case measure=>simp[intOf];omega
  ·obtain rfl:i=n:=by omega
   have Do:=j9.o;rw[HR.o] at Do;obtain rfl:=Option.some.inj Do;clear Do j9 H7;go_wp2_with fail
   go_ret2
   exact⟨_,_,rfl,YO.o,B.o⟩
theorem Zay{n:Nat}(h:n<10^400):Vf n:=by
 have h2:n<4294967296^1000:=Nat.lt_of_lt_of_le h (by decide +kernel);exact Nat.le_trans (Zl9 h2) (by decide)
theorem Zgj{n:Nat}(h:n<10^400):(dec n).size<=400:=by
 rw[Kw];exact(Kv n 400 (by decide)).2 h
theorem Zjr(w:World)(q:Rat)(hq:Sm 400 q):
  Calls Tryz.prog 145 #[fr q] w fun e w'=>∃ a c b d,e = .returned (.tuple #[frX q.num a c q.den b d,.bool true])/\IsX w' a c q.num.natAbs/\IsX w' b d q.den/\Bw_ w w':=by
 unfold frX fr fv;have Mf:=hd_ (fun V=>Zel V q.num (Zgj hq.1));have BV:=hd_ (fun V=>Zel V (q.den:Int) (by rw[Int.natAbs_natCast];exact Zgj hq.2));simp only[Zh4,Int.natAbs_natCast,Kg] at BV;unfold igV at Mf;have hg:Nat.gcd q.num.natAbs q.den=1:=q.reduced;have fh:=Zx.2 q.den_pos;have l1:Vf q.num.natAbs:=Zay hq.1;have l2:Vf q.den:=Zay hq.2;have HC:=hd_ (fun V r1 s1 r2 s2 (k1:IsX V r1 s1 q.num.natAbs) (k2:IsX V r2 s2 q.den)=>Zqc V r1 r2 s1 s2 _ _ k1 k2 l1 l2);rw[hg] at HC;unfold Yk at HC;have HO:=hd_ (fun V r1 s1 r2 s2 (k1:IsX V r1 s1 1) (k2:IsX V r2 s2 1)=>Za2 V r1 r2 s1 s2 1 1 k1.1 k2.1 (by rw[Vs];decide));rw[show Vt 1 1=0 from rfl,Vs] at HO;rw[Vs] at HC;have OA:(((wN q.den).length:Int)==0)=false:=by rw[beq_eq_false_iff_ne];omega
 clear hg l1 l2 hq fh;generalize decide (q.num<0)=s at *;generalize q.num.natAbs=n at *;generalize q.den=d at *;generalize itx q.num=sn at *;generalize dec d=sd at *;have K0:=Kk w #[.string sn,.string sd] 101 _ rfl;have e1:(w.alloc (.cells #[.string sn,.string sd] 101)).heap.size=w.heap.size+1:=by simp
 have NB:=hd_ (Kh K0 (.cells #[.bool false,.slice none 0 0,.slice none 0 0] 121));have NR:=hd_ (Kk (w.alloc (.cells #[.string sn,.string sd] 101)) #[.bool false,.slice none 0 0,.slice none 0 0] 121 _ e1);have B:=hd_ (((Below.refl w.heap.size w).alloc nr_ (.cells #[.string sn,.string sd] 101)).alloc (by rw[e1];omega) (.cells #[.bool false,.slice none 0 0,.slice none 0 0] 121));obtain⟨k0,k1,-,-⟩:=Ka NB.o;clear K0 e1;go_enter Tryz.func145,Tryz.ntmps145;go_wp2_with fail;generalize (w.alloc (.cells #[.string sn,.string sd] 101)).alloc (.cells #[.bool false,.slice none 0 0,.slice none 0 0] 121)=W0 at *;clear k0 k1;refine cm_ (Mf.o _) ?_;rintro e w1 ⟨a,c,rfl,hi,hb⟩;have gL:=hb.trans (((Below.refl w1.heap.size w1).alloc nr_ (.cells #[.bool s,.slice a (wN n).length c] 119)).mono hb.size);have T4:=hd_ (Kk w1 #[.bool s,.slice a (wN n).length c] 119 _ rfl);have X1:=hd_ (hi.below ((Below.refl w1.heap.size w1).alloc nr_ (.cells #[.bool s,.slice a (wN n).length c] 119)) nr_);replace NB:=hk_ NB gL;replace NR:=hk_ NR gL;replace B:=bt_ B gL;obtain⟨k0,k1,-,-⟩:=Ka NB.o;clear gL hi hb Mf;go_wp2_with fail;generalize hg4:w1.heap.size=g4 at *;generalize w1.alloc (.cells #[.bool s,.slice a (wN n).length c] 119)=W1 at *;clear k0 k1 hg4;refine cm_ (BV.o _) ?_;rintro e w2 ⟨b,d',rfl,hi,hb⟩;have gL:=hb.trans (((Below.refl w2.heap.size w2).alloc nr_ (.cells #[.bool false,.slice b (wN d).length d'] 119)).mono hb.size);have T6:=hd_ (Kk w2 #[.bool false,.slice b (wN d).length d'] 119 _ rfl);have X2:=hd_ (hi.below ((Below.refl w2.heap.size w2).alloc nr_ (.cells #[.bool false,.slice b (wN d).length d'] 119)) nr_);replace X1:=hd_ (X1.o.below gL nr_);replace T4:=hk_ T4 gL;replace NR:=hk_ NR gL;replace B:=bt_ B gL;obtain⟨k0,k1,-,-⟩:=Ka T4.o;obtain⟨k2,k3,-,-⟩:=Ka T6.o;clear gL hi hb BV NB;go_wp2_with fail;generalize hg6:w2.heap.size=g6 at *;generalize w2.alloc (.cells #[.bool false,.slice b (wN d).length d'] 119)=W2 at *;clear k0 k1 k2 k3 hg6;refine cm_ (HC.o _ _ _ _ _ X1.o X2.o) ?_;rintro e w3 ⟨r,rc,rfl,hi,hb⟩;have gL:=hb.trans (((Below.refl w3.heap.size w3).alloc nr_ (.cells #[.int .u32 1] 131)).mono hb.size);have O1:=hd_ (IsX.one (Kk w3 #[.int .u32 1] 131 _ rfl));have X3:=hd_ (hi.below ((Below.refl w3.heap.size w3).alloc nr_ (.cells #[.int .u32 1] 131)) nr_);replace X1:=hd_ (X1.o.below gL nr_);replace X2:=hd_ (X2.o.below gL nr_);replace T4:=hk_ T4 gL;replace T6:=hk_ T6 gL;replace NR:=hk_ NR gL;replace B:=bt_ B gL;clear gL hi hb HC;go_wp2_with fail;generalize hg7:w3.heap.size=g7 at *;generalize w3.alloc (.cells #[.int .u32 1] 131)=W3 at *;clear hg7;refine cm_ (HO.o _ _ _ _ _ X3.o O1.o) ?_;rintro e w4 ⟨rfl,hb⟩;replace X1:=hd_ (X1.o.below hb nr_);replace X2:=hd_ (X2.o.below hb nr_);replace T4:=hk_ T4 hb;replace T6:=hk_ T6 hb;replace NR:=hk_ NR hb;replace B:=bt_ B hb;obtain⟨k0,k1,-,-⟩:=Ka T4.o;obtain⟨k2,k3,-,-⟩:=Ka T6.o;obtain⟨k0_,k1_,k2_,f_⟩:=Kd NR.o;have gR:=hd_ (Zn (.bool s) (.slice a (wN n).length c) (.slice b (wN d).length d') k0_ k1_ k2_ (show w.heap.size<=w.heap.size+1 by omega) B.o);have GT:=Zca NR.o;have EU:=f_ 0;have dj:=f_ 1;have IL:=f_ 2;clear hb HO X3 O1;go_wp2_with fail;obtain⟨c0_,c1_,c2_,hb_⟩:=gR.o;exact bodyPost_ret (v := .tuple #[.agg #[.bool s,.slice a (wN n).length c,.slice b (wN d).length d'],.bool true]) (by simp[results,Tryz.results145,go_sem,c0_,c1_,c2_]) rfl ⟨a,c,b,d',rfl,X1.o.set3 GT _ _ _,X2.o.set3 GT _ _ _,hb_⟩
theorem Zzl(w:World)(q:Rat)(hq:Sm 400 q):Kc Tryz.prog 144 #[fr q] w (.bool true):=by
 unfold Kc;have HP:=hd_ (fun V=>Zjr V q hq);unfold frX fr fv at HP;unfold fr fv;generalize decide (q.num<0)=s at *;generalize itx q.num=sn at *;generalize dec q.den=sd at *;have N0:=Kk w #[.string sn,.string sd] 101 _ rfl;have B:=hd_ ((Below.refl w.heap.size w).alloc nr_ (.cells #[.string sn,.string sd] 101));obtain⟨k0,k1,-,-⟩:=Ka N0;clear N0;go_enter Tryz.func144,Tryz.ntmps144;go_wp2_with fail;refine cm_ (HP.o _) ?_;rintro e w1 ⟨a,c,b,d,rfl,-,-,hb⟩;have B1:=hd_ ((bu_ B hb).alloc (bu_ B hb).size (.cells #[.bool s,.slice a (wN q.num.natAbs).length c,.slice b (wN q.den).length d] 121));clear hb HP B k0 k1;go_wp2_with fail;go_ret;exact⟨rfl,B1.o⟩
theorem Qg.same{w w':World}{a:OA_}{l:List Nat}(h:Qg w a l)(hh:∀ k,k<w.heap.size->w'.heap[k]?=w.heap[k]?):Qg w' a l:=by
 rcases h with h|⟨b,off,h1,⟨c2,h2⟩,h3⟩
 ·exact .inl h
 ·have H7:=Zrn h2;refine .inr ⟨b,off,h1,⟨c2,(hh b H7).trans h2⟩,fun i hi=>?_⟩;rw[<- h3 i hi];simp only[World.cell?,hh b H7]
theorem IsX.grown{w w':World}{base size n c m:Nat}{e:TypeId}{v:Value}{xs:List Value}{a:OA_}(h:IsX w a c m)(ho:w.ownsRow base e size v n xs)(he:e≠131)(hg:w.grownBy w' v.ownBlock):IsX w' a c m:=by
 refine⟨?_,h.2⟩;rcases ho.2 with⟨rfl,-⟩|⟨g,cap,cur,rfl,-,h2,-⟩
 ·exact h.1.same fun k hk=>hg.block k hk (by simp[Value.ownBlock])
 ·exact h.1.other h2 he fun k hk gh=>hg.block k hk (by simp only[Value.ownBlock,ne_eq,Option.some.injEq];exact gh)
def Zi7 (w:World) (V:List Value) (l:List Rat):Prop:=∀ i,i<l.length->∃ a c b d,V[i*3]?=some (.bool (decide ((l.getD i 0).num<0)))/\V[i*3+1]?=some (.slice a (wN (l.getD i 0).num.natAbs).length c)/\V[i*3+2]?=some (.slice b (wN (l.getD i 0).den).length d)/\IsX w a c (l.getD i 0).num.natAbs/\IsX w b d (l.getD i 0).den
theorem Zi7.map{w w':World}{V:List Value}{l:List Rat}(h:Zi7 w V l)(hh:∀ a c n,IsX w a c n->IsX w' a c n):Zi7 w' V l:=fun i hi=>by
 obtain⟨a,c,b,d,h1,h2,h3,h4,h5⟩:=h i hi;exact⟨a,c,b,d,h1,h2,h3,hh _ _ _ h4,hh _ _ _ h5⟩
theorem Zi7.push{w:World}{V:List Value}{l:List Rat}{q:Rat}{a b:OA_}{c d:Nat}(h:Zi7 w V l)(hV:V.length=l.length*3)(h1:IsX w a c q.num.natAbs)(h2:IsX w b d q.den):
  Zi7 w (V++[.bool (decide (q.num<0)),.slice a (wN q.num.natAbs).length c,.slice b (wN q.den).length d]) (l++[q]):=fun i hi=>by
 rw[List.length_append,List.length_singleton] at hi;rcases Nat.lt_or_ge i l.length with H7|aA
 ·obtain⟨a',c',b',d',g1,g2,g3,g4,g5⟩:=h i H7;have e:(l++[q]).getD i 0=l.getD i 0:=by rw[List.getD_eq_getElem?_getD,List.getElem?_append_left H7,<- List.getD_eq_getElem?_getD]
  rw[e,List.getElem?_append_left (by omega),List.getElem?_append_left (by omega),List.getElem?_append_left (by omega)];exact⟨a',c',b',d',g1,g2,g3,g4,g5⟩
 ·obtain rfl:i=l.length:=by omega
  have e:(l++[q]).getD l.length 0=q:=by rw[List.getD_eq_getElem?_getD,List.getElem?_append_right nr_,Nat.sub_self];rfl
  rw[e,List.getElem?_append_right (by omega),List.getElem?_append_right (by omega),List.getElem?_append_right (by omega),hV,Nat.sub_self,show l.length*3+1-l.length*3=1 by omega,show l.length*3+2-l.length*3=2 by omega];exact⟨a,c,b,d,rfl,rfl,rfl,h1,h2⟩
theorem Qge:(Tryz.prog.info? 121).map (fun i=>(i.zero,i.size,i.bytes))=some (some (.agg #[.bool false,.slice none 0 0,.slice none 0 0]),3,56):=by kernel_rfl
theorem Qig:Zbw Tryz.prog 113 121 (.agg #[.bool false,.slice none 0 0,.slice none 0 0]) 3 56:=⟨Tryz.underlying113,info_parts Qge,rfl,by decide⟩
theorem Znh(w:World)(a:OA_)(c:Nat)(l:List Rat)(hr:Rd w a (Kj l))(hs:∀ q∈l,Sm 400 q)(hl:l.length<=1000):
  Calls Tryz.prog 62 #[.slice a l.length c] w fun e w'=>∃ r rc V,e = .returned (.tuple #[.slice r l.length rc,.bool true])/\w'.ownsRow w.heap.size 121 3 (.slice r l.length rc) l.length V/\Zi7 w' V l/\Bw_ w w':=by
 have Hr:=hd_ hr;have Hs:=hd_ hs;clear hr hs;obtain⟨n,hn⟩:∃ n,l.length=n:=⟨_,rfl⟩;have Hn:=hd_ hn;rw[hn] at hl ⊢;clear hn;go_enter Tryz.func62,Tryz.ntmps62;go_wp2_with fail
 go_loopw [4,11] (fun ov iv wr=>∃ (k:Nat) (r:OA_) (rc:Nat) (V:List Value),k<=n/\ov = .slice r k rc/\iv = .int .i64 k/\Hid (wr.ownsRow w.heap.size 121 3 (.slice r k rc) k V)/\Hid (Zi7 wr V (l.take k))/\Hid (Bw_ w wr)) (fun _ iv _=>n-(intOf iv).toNat)
 case atStart=>exact⟨0,none,0,[],Nat.zero_le _,rfl,rfl,World.ownsRow_nil ..,fun i hi=>by simp at hi,Below.refl _ _⟩
 case round =>
  obtain⟨k,r,rc,V,hk,rfl,rfl,HO,HF,B⟩:=hrel
  by_cases H7:k<n
  ·have Gp:k<l.length:=by rw[Hn.o];exact H7
   obtain⟨b,off,rfl,hb,hcells⟩:=Hr.o.open (by rw[Kq,Hn.o];omega);obtain⟨x0,x1⟩:=Qb hcells k (by rw[List.length_map];exact Gp);rw[<- B.o.cell (p:=⟨b,off+k*2,none⟩) hb,Qc _ k Gp] at x0;rw[<- B.o.cell (p:=⟨b,off+k*2+1,none⟩) hb,Qc _ k Gp] at x1;have hq:=Hs.o _ (List.getElem_mem Gp);have e9:Hid (l.take (k+1)=l.take k++[l[k]]):=by show _=_;rw[List.take_succ_eq_append_getElem Gp]
   have JR:Hid ((l.take k).length=k):=by show _=_;rw[List.length_take,Hn.o];omega
   generalize l[k]=q at *;have HP:=hd_ (fun W=>Zjr W q hq);unfold frX fr fv at HP;simp only[qs] at x0 x1;have gi:(k:Int)<n:=by omega
   clear hcells hq Gp;obtain⟨sq,A7⟩:∃ s,decide (q.num<0)=s:=⟨_,rfl⟩;rw[A7] at HP;have pF:=hd_ A7;clear A7;have gL:=(Below.refl wr.heap.size wr).alloc nr_ (.cells #[.string (itx q.num),.string (dec q.den)] 101);have N6:=hd_ (Kk wr #[.string (itx q.num),.string (dec q.den)] 101 _ rfl);obtain⟨k0,k1,-,-⟩:=Ka N6.o;have Fb:=hd_ (Ky HO.o gL nr_);have oy:=hd_ (HF.o.map fun _ _ _ h=>h.below gL nr_);have B1:=bt_ B gL;clear HO HF B gL N6;go_wp2_with fail;generalize wr.alloc (.cells #[.string (itx q.num),.string (dec q.den)] 101)=W1 at *;clear x0 x1 k0 k1;refine cm_ (HP.o W1) ?_;rintro e w2 ⟨ra,ca,rb,cb,rfl,h1,h2,HU⟩;have gL:=HU.trans (((Below.refl w2.heap.size w2).alloc nr_ (.cells #[.bool sq,.slice ra (wN q.num.natAbs).length ca,.slice rb (wN q.den).length cb] 121)).mono HU.size);have ed:=(Below.refl w2.heap.size w2).alloc nr_ (.cells #[.bool sq,.slice ra (wN q.num.natAbs).length ca,.slice rb (wN q.den).length cb] 121);have N7:=hd_ (Kk w2 #[.bool sq,.slice ra (wN q.num.natAbs).length ca,.slice rb (wN q.den).length cb] 121 _ rfl);obtain⟨k0,k1,k2,-⟩:=Kd N7.o;have F0:=hd_ (Ky Fb.o gL nr_);have ow:=hd_ (oy.o.map fun _ _ _ h=>h.below gL nr_);have X1:=hd_ (h1.below ed nr_);have X2:=hd_ (h2.below ed nr_);have B2:=bt_ B1 gL;clear Fb oy B1 gL ed h1 h2 HU HP N7;generalize Jy:(wN q.num.natAbs).length=m1 at *;generalize E9:(wN q.den).length=m2 at *;have pY:=hd_ Jy;have mC:=hd_ E9;clear Jy E9;generalize ID:w2.alloc (.cells #[.bool sq,.slice ra m1 ca,.slice rb m2 cb] 121)=W2 at *;have fL:=hd_ B2.o.size
   go_wp2_with (at_builtin;refine Ku rfl (.tmp 22) (.tmp 24) 113 rfl Qig _ 1 [.bool sq,.slice ra m1 ca,.slice rb m2 cb] rfl rfl F0.o fL.o rfl (by simp[Value.oneCell']) (by omega) (by omega) ?_)
   intro v' w5 gl gJ GN;obtain⟨a3,d3,rfl⟩:=Qp gl;have cI:=(Below.refl W2.heap.size W2).alloc nr_ (.cells #[.bool sq,.slice ra m1 ca,.slice rb m2 cb] 121);have LF:=Ky F0.o cI nr_;have bC:∀ a c n,IsX W2 a c n->IsX w5 a c n:=fun a c n h=>(h.below cI nr_).grown LF (by decide) gJ
   have Pr:Hid (Zi7 w5 (V++[.bool sq,.slice ra m1 ca,.slice rb m2 cb]) (l.take (k+1))):=by
    have h:=(ow.o.map bC).push (q:=q) (by rw[JR.o];exact F0.o.1) (bC _ _ _ X1.o) (bC _ _ _ X2.o);rw[pF.o,pY.o,mC.o,<- e9.o] at h;exact h
   have Mi:=hd_ gl;have B5:=hd_ ((bu_ B2 cI).grown gJ (Nat.le_trans B2.o.size cI.size) (fun j hj=>(LF.lt j hj).1));clear gl gJ GN cI LF bC ow F0 X1 X2 B2;go_wp2_with fail;refine⟨⟨k+1,a3,d3,_,by omega,rfl,by go_num,Mi,Pr,B5⟩,by simp[intOf];omega⟩
  ·obtain rfl:k=n:=by omega
   have e9:Hid (Zi7 wr V l):=by have:=HF.o;rwa [List.take_of_length_le (by rw[Hn.o];exact Nat.le_refl _)] at this
   clear HF;go_wp2_with fail
   go_ret2
   exact⟨r,rc,V,rfl,HO.o,e9.o,B.o⟩
theorem Zjh(w:World)(z:Int)(hz:(dec z.natAbs).size<=30):Kc Tryz.prog 143 #[.string (itx z)] w (.bool true):=by
 unfold Kc
 by_cases h:z<0
 ·obtain⟨n,rfl⟩:∃ n:Nat,z = -(n:Int):=⟨z.natAbs,by omega⟩;have hn:1<=n:=by omega
  have Gu:=Vl n hn;have Ej:∀ W,(Instr.index 38 (.string (itx (-(n:Int)))) (.int .i64 0)).run Tryz.prog W = .ok (.int .u8 45) W:=fun W=>by
   rw[Qce W _ (by omega),Zf n hn];rfl
  rw[show (-(n:Int)).natAbs=n by omega] at hz;obtain⟨m,hm⟩:∃ m,(itx (-(n:Int))).size=m+1:=⟨(dec n).size,Gu⟩;have eG:m<=30:=by omega
  have GI:(0:Int)<((m+1:Nat):Int):=by omega
  have fz:((m+1:Nat):Int)-1<=30:=by omega
  have hw:IntKind.i64.wrap (m:Int)=m:=iw_ _ (by omega);have Lc:(m:Int)<=30:=by omega
  clear hz Gu h;generalize itx (-(n:Int))=s at *;go_enter Tryz.func143,Tryz.ntmps143;go_wp2;go_ret;exact⟨by first | rfl | simp,Below.refl _ _⟩
 ·obtain⟨n,rfl⟩:∃ n:Nat,z=(n:Int):=⟨z.natAbs,by omega⟩;have Ej:∀ W,(Instr.index 38 (.string (dec n)) (.int .i64 0)).run Tryz.prog W = .ok (.int .u8 ((lb (dec n)).getD 0 0).toNat) W:=fun W=>Qce W _ (Zab n)
  have hf:=Zdb n;have GI:=Zab n;rw[Int.natAbs_natCast] at hz;rw[Kg];obtain⟨m,hm⟩:∃ m,(dec n).size=m:=⟨_,rfl⟩;rw[hm] at hz GI;have MX:(0:Int)<m:=by omega
  have fz:(m:Int)<=30:=by omega
  clear h GI;generalize dec n=s at *;generalize ((lb s).getD 0 0).toNat=c at *;have hc:((c:Int)==45)=false:=by rw[beq_eq_false_iff_ne];omega
  go_enter Tryz.func143,Tryz.ntmps143;go_wp2;go_ret;exact⟨by first | rfl | simp,Below.refl _ _⟩
theorem Zvc:∀ p∈Vj,∀ d,2<=d->d<p.toNat->p.toNat%d≠0:=by
 have h:∀ p∈Vj,∀ d,d<14->2<=d->d<p.toNat->p.toNat%d≠0:=by decide
 intro p hp d h2 hd;have LS:∀ p∈Vj,p.toNat<=13:=by decide
 exact h p hp d (by have:=LS p hp;omega) h2 hd
theorem Zkq:∀ p∈Vj,2<=p/\p<=13:=by decide
theorem Zf6(w:World)(p:Int)(hp:p∈Vj):Kc Tryz.prog 146 #[.int .i64 p] w (.bool true):=by
 unfold Kc;have Hm:=hd_ (Zvc p hp);have hl:=Zkq p hp;obtain⟨n,rfl⟩:=Int.eq_ofNat_of_zero_le (show 0<=p by omega);rw[Int.toNat_natCast] at Hm;have A9:2<=n:=by omega
 have Of:n<=13:=by omega
 have h1:¬ ((n:Nat):Int)<2:=by omega
 have h2:¬ (97:Int)<n:=by omega
 clear hp hl;go_enter Tryz.func146,Tryz.ntmps146;go_wp2_with fail
 go_loop [3] (fun dv=>∃ d:Nat,2<=d/\d<=n/\dv = .int .i64 d) (fun dv=>n-(intOf dv).toNat)
 case atStart=>exact⟨2,Nat.le_refl _,A9,rfl⟩
 case round =>
  obtain⟨d,Fm,hdn,rfl⟩:=hrel
  by_cases H7:d<n
  ·have hm:Int.tmod (n:Int) d=((n%d:Nat):Int):=by rw[Int.tmod_eq_emod_of_nonneg (by omega)];rfl
   have eG:(n:Int)%d=((n%d:Nat):Int):=rfl;have gh:=Hm.o d Fm H7;have hz:(((n%d:Nat):Int)==0)=false:=by rw[beq_eq_false_iff_ne];omega
   have fh:((d:Int)==0)=false:=by rw[beq_eq_false_iff_ne];omega
   have OF:¬ (d:Int)=0:=by omega
   have ar:n%d<n:=Nat.lt_of_lt_of_le (Nat.mod_lt _ (by omega)) hdn;generalize n%d=r at *;go_wp2
   go_round
   case rel=>exact⟨d+1,by omega,by omega,by go_num⟩
   case measure=>simp[intOf];omega
  ·obtain rfl:d=n:=by omega
   go_wp2;go_ret;exact⟨rfl,Below.refl _ _⟩
theorem Zo8(w:World)(a:OA_)(c:Nat)(ps:List Int)(hr:Rd w a (Vd ps))(hs:∀ p∈ps,p∈Vj)(ho:∀ i,0<i->i<ps.length->ps.getD (i-1) 0<ps.getD i 0)(h0:0<ps.length)(h6:ps.length<=6):
  Kc Tryz.prog 142 #[.slice a ps.length c] w (.bool true):=by
 unfold Kc;obtain⟨b,o,rfl,hb,hc⟩:=hr.open (by rw[Qw];exact h0);have Hc:Hid (∀ i,i<ps.length->w.cell? ⟨b,o+i,none⟩=some (.int .i64 (ps.getD i 0))):=fun i hi=>hc i _ (by rw[Yn ps i hi,List.getD_eq_getElem?_getD,List.getElem?_eq_getElem hi];rfl)
 have HP:=hd_ (fun W i (hi:i<ps.length)=>Zf6 W (ps.getD i 0) (hs _ (by rw[List.getD_eq_getElem?_getD,List.getElem?_eq_getElem hi];exact List.getElem_mem hi)));have HB:=hd_ (fun i (hi:i<ps.length)=>Zkq (ps.getD i 0) (hs _ (by rw[List.getD_eq_getElem?_getD,List.getElem?_eq_getElem hi];exact List.getElem_mem hi)));have HO:=hd_ ho;clear hs ho hc hr;obtain⟨n,hn⟩:∃ n,ps.length=n:=⟨_,rfl⟩;rw[hn] at h0 h6 HO HP Hc HB ⊢;clear hn;have dP:(0:Int)<n:=by omega
 have PU:(n:Int)<=6:=by omega
 go_enter Tryz.func142,Tryz.ntmps142;go_wp2_with fail
 go_loopw [7] (fun iv wr=>∃ k:Nat,k<=n/\iv = .int .i64 k/\Hid (Bw_ w wr)) (fun iv _=>n-(intOf iv).toNat)
 case atStart=>exact⟨0,Nat.zero_le _,rfl,Below.refl _ _⟩
 case round =>
  obtain⟨k,hk,rfl,B⟩:=hrel
  by_cases H7:k<n
  ·have gi:(k:Int)<n:=by omega
   have ck:=Hc.o k H7;rw[<- B.o.cell (p:=⟨b,o+k,none⟩) hb] at ck;have hp:=hd_ (HP.o wr k H7);have nG:=HB.o k H7;rcases Nat.eq_zero_or_pos k with dR|dR
   ·subst dR;generalize ps.getD 0 0=x at *;rw[Nat.add_zero] at ck;have nh:¬ (0:Int)<((0:Nat):Int):=by omega
    go_wp2_with fail;refine cm_ hp.o ?_;rintro e w2 ⟨rfl,HU⟩;have B2:=bt_ B HU;clear HU hp B ck;go_wp2_with fail
    go_roundw
    case rel=>exact⟨1,by omega,by go_num,B2⟩
    case measure=>simp[intOf];omega
   ·obtain⟨j,rfl⟩:∃ j,k=j+1:=⟨k-1,by omega⟩;have cj:=Hc.o j (by omega);have Di:=HO.o (j+1) dR H7;rw[Nat.add_sub_cancel] at Di;generalize ps.getD j 0=y at *;generalize ps.getD (j+1) 0=x at *;have nh:(0:Int)<((j+1:Nat):Int):=by omega
    have PX:IntKind.i64.wrap (((j+1:Nat):Int)-1)=(j:Int):=by rw[show ((j+1:Nat):Int)-1=(j:Int) by omega];exact iw_ _ (by omega)
    have fW:¬ x<=y:=by omega
    go_wp2_with fail;refine cm_ hp.o ?_;rintro e w2 ⟨rfl,HU⟩;have B2:=bt_ B HU;have rF:w2.cell? ⟨b,o+j,none⟩=some (.int .i64 y):=by rw[B2.o.cell (p:=⟨b,o+j,none⟩) hb];exact cj
    clear HU hp B ck cj;go_wp2_with fail
    go_roundw
    case rel=>exact⟨j+1+1,by omega,by go_num,B2⟩
    case measure=>simp[intOf];omega
  ·obtain rfl:k=n:=by omega
   go_wp2_with fail;go_ret;exact⟨rfl,B.o⟩
theorem Zmp(w:World)(a0 a:OA_)(c0 c:Nat)(ps:List Int)(l:List Rat)(hp:Rd w a0 (Vd ps))(hr:Rd w a (Kj l))(hs:∀ p∈ps,p∈Vj)(ho:∀ i,0<i->i<ps.length->ps.getD (i-1) 0<ps.getD i 0)(h0:0<ps.length)(h6:ps.length<=6)(hl:l.length=ps.length)(hq:∀ q∈l,Sm 30 q):
  Kc Tryz.prog 61 #[.slice a0 ps.length c0,.slice a l.length c] w (.bool true):=by
 unfold Kc;have HP:=hd_ (Zo8 w a0 c0 ps hp hs ho h0 h6);have Hr:=hd_ hr;have Hq:=hd_ hq;clear hp hr hs ho hq;rw[<- hl] at HP h0 h6 ⊢;clear hl;obtain⟨n,hn⟩:∃ n,l.length=n:=⟨_,rfl⟩;have Hn:=hd_ hn;rw[hn] at HP h0 h6 ⊢;clear hn;have Fw:((n:Int) != n)=false:=by simp
 go_enter Tryz.func61,Tryz.ntmps61;go_wp2_with fail;refine cm_ HP.o ?_;rintro e w1 ⟨rfl,hb⟩;have B1:=hd_ hb;clear hb HP;go_wp2_with fail
 go_loopw [19] (fun iv wr=>∃ k:Nat,k<=n/\iv = .int .i64 k/\Hid (Bw_ w wr)) (fun iv _=>n-(intOf iv).toNat)
 case atStart=>exact⟨0,Nat.zero_le _,rfl,B1⟩
 case round =>
  obtain⟨k,hk,rfl,B⟩:=hrel;clear B1
  by_cases H7:k<n
  ·have Gp:k<l.length:=by rw[Hn.o];exact H7
   obtain⟨b,off,rfl,hb,hcells⟩:=Hr.o.open (by rw[Kq,Hn.o];omega);obtain⟨x0,x1⟩:=Qb hcells k (by rw[List.length_map];exact Gp);rw[<- B.o.cell (p:=⟨b,off+k*2,none⟩) hb,Qc _ k Gp] at x0;rw[<- B.o.cell (p:=⟨b,off+k*2+1,none⟩) hb,Qc _ k Gp] at x1;have hq:=Hq.o _ (List.getElem_mem Gp);generalize l[k]=q at *;have S1:=hd_ (fun W=>Zjh W q.num (by rw[Kw];exact(Kv _ 30 (by decide)).2 hq.1));have S2:=hd_ (fun W=>Zjh W (q.den:Int) (by rw[Int.natAbs_natCast,Kw];exact(Kv _ 30 (by decide)).2 hq.2));have S3:=hd_ (fun W=>Zzl W q (hq.le (by decide)));simp only[Kg] at S2;unfold fr fv at S3;simp only[qs] at x0 x1;have gi:(k:Int)<n:=by omega
   clear hcells hq Gp;generalize itx q.num=sn at *;generalize dec q.den=sd at *;have gL:=(Below.refl wr.heap.size wr).alloc nr_ (.cells #[.string sn,.string sd] 101);have N6:=hd_ (Kk wr #[.string sn,.string sd] 101 _ rfl);obtain⟨k0,k1,-,-⟩:=Ka N6.o;have B1:=bt_ B gL;clear B gL;go_wp2_with fail;generalize wr.alloc (.cells #[.string sn,.string sd] 101)=W1 at *;generalize wr.heap.size=g at *;clear x0 x1 k0 k1;refine cm_ (S1.o W1) ?_;rintro e w2 ⟨rfl,HU⟩;replace N6:=hk_ N6 HU;replace B1:=bt_ B1 HU;obtain⟨k0,k1,-,-⟩:=Ka N6.o;clear HU;go_wp2_with fail;clear k0 k1;refine cm_ (S2.o w2) ?_;rintro e w3 ⟨rfl,HU⟩;replace N6:=hk_ N6 HU;replace B1:=bt_ B1 HU;obtain⟨k0,k1,-,-⟩:=Ka N6.o;clear HU;go_wp2_with fail;clear k0 k1;refine cm_ (S3.o w3) ?_;rintro e w4 ⟨rfl,HU⟩;replace B1:=bt_ B1 HU;clear HU S1 S2 S3 N6;go_wp2_with fail
   go_roundw
   case rel=>exact⟨k+1,by omega,by go_num,B1⟩
   case measure=>simp[intOf];omega
  ·obtain rfl:k=n:=by omega
   go_wp2_with fail;go_ret;exact⟨rfl,B.o⟩
def Qcn (w w':World) (B R P:Nat) (st:Option (Bool×Nat×Nat)) (e:Ending):Prop :=
 w.grownBy w' (some R)/\match st with
  | none=>e = .returned (.tuple #[.bool false,.bool false])
  | some x=>e = .returned (.tuple #[.bool x.1,.bool true])/\Zyf w' B R P x.2.1 x.2.2
theorem Zbe{w w':World}{R:Nat}(h:Bw_ w w'):w.grownBy w' (some R):=⟨h.os,h.tape,h.output,h.size,fun k hk _=>h.block k hk⟩
theorem Znn(W:World)(R j:Nat)(v:Value):W.grownBy (W.setCell ⟨R,j,none⟩ v) (some R) :=
 ⟨rfl,rfl,rfl,(KeepsWalks.setCell W _ v).size,fun k _ hk=>Below.heap_setCell _ _ _ k (fun e=>hk (by rw[e]))⟩
theorem Vb.grown{w w':World}{B R:Nat}{a:OA_}{c:Nat}{l:List Nat}(h:Vb w B a c l)(hg:w.grownBy w' (some R))(hR:R<B):Vb w' B a c l:=by
 refine World.ownsRow.kept h hg ?_;cases hv:(Value.slice a l.length c).ownBlock with
 | none=>simp
 | some k =>
  have:=(World.ownsRow.lt h k hv).1
  exact .inr (fun e=>by cases e;omega)
theorem Zmh{w:World}{R:Nat}{x y z x' y':Value}{t:TypeId}(h:w.heap[R]?=some (.cells #[x,y,z] t (0,0))):
  ((w.setCell ⟨R,0,none⟩ x').setCell ⟨R,1,none⟩ y').heap[R]?=some (.cells #[x',y',z] t (0,0)):=by
 have H7:=lt_of_block h;have h':w.heap[R] = .cells #[x,y,z] t (0,0):=by simpa [Array.getElem?_eq_getElem H7] using h
 have e1:(w.setCell ⟨R,0,none⟩ x').heap[R]?=some (.cells #[x',y,z] t (0,0)):=by
  show (w.heap.modify R _)[R]?=_
  rw[Array.getElem?_eq_getElem (by simpa using H7),Array.getElem_modify_self,h'];rfl
 have Gk:=lt_of_block e1;have eX:(w.setCell ⟨R,0,none⟩ x').heap[R] = .cells #[x',y,z] t (0,0):=by simpa [Array.getElem?_eq_getElem Gk] using e1
 show ((w.setCell ⟨R,0,none⟩ x').heap.modify R _)[R]?=_
 rw[Array.getElem?_eq_getElem (by simpa using Gk),Array.getElem_modify_self,eX];rfl
theorem MaS.put{w w0:World}{B R P C:Nat}{a1 a2 b1 b2:OA_}{c1 c2 d1 d2:Nat}{L H L' H':List Nat}(h:MaS w B R P a1 c1 L a2 c2 H)(hC:R<C)(o1:Vb w C b1 d1 L')(o2:Vb w C b2 d2 H')(p1:Wds L')(p2:Wds H')(hg:w0.grownBy w (some R)):
  MaS ((w.setCell ⟨R,0,none⟩ (.slice b1 L'.length d1)).setCell ⟨R,1,none⟩ (.slice b2 H'.length d2)) C R P b1 d1 L' b2 d2 H'/\w0.grownBy ((w.setCell ⟨R,0,none⟩ (.slice b1 L'.length d1)).setCell ⟨R,1,none⟩ (.slice b2 H'.length d2)) (some R):=by
 have g2:=Qk (Znn w R 0 (.slice b1 L'.length d1)) (Znn _ R 1 (.slice b2 H'.length d2));exact⟨⟨Zmh h.ob,o1.grown g2 hC,o2.grown g2 hC,p1,p2⟩,Qk hg g2⟩
theorem MaS.mono{w:World}{B C R P:Nat}{a1 a2:OA_}{c1 c2:Nat}{L H:List Nat}(h:MaS w C R P a1 c1 L a2 c2 H)(hB:B<=C):MaS w B R P a1 c1 L a2 c2 H :=
 ⟨h.ob,h.o1.mono hB,h.o2.mono hB,h.p1,h.p2⟩
theorem Qem(w:World)(B R P lo hi:Nat)(M:Zyf w B R P lo hi)(hP:P<=2000)(hB:B<=w.heap.size)(fz:lo<=hi)
  (Dn:∀ x,Zgf (2^P) lo hi=some x->x.2.1<18446744073709551616^(P/64+2)/\x.2.2<18446744073709551616^(P/64+2)) :
  Calls Tryz.prog 293 #[.pointer (some ⟨R,0,none⟩)] w fun e w'=>Qcn w w' B R P (Zgf (2^P) lo hi) e:=by
 obtain⟨a1,c1,L,a2,c2,H,S,JJ,l1,l2,v1,v2⟩:=M;obtain⟨wo,hwo⟩:∃ wo,P/64=wo:=⟨_,rfl⟩;obtain⟨r,hr⟩:∃ r,P%64=r:=⟨_,rfl⟩;have JG:P=64*wo+r:=by omega
 have bm:r<64:=by omega
 have ii:R<w.heap.size:=(Array.getElem?_eq_some_iff.1 S.ob).1;obtain⟨k0,k1,k2,kf⟩:=Kd S.ob;rw[l1] at k0;rw[l2] at k1;rw[hwo] at k0 k1 l1 l2 Dn;have HP:=hd_ JG;have oT:wo<=40:=by omega
 have JQ:=hd_ hwo;have jW:Hid (∀ W,Bw_ w W->Calls Tryz.prog 306 #[.slice a1 (wo+2) c1] W fun e w'=>∃ a c LL,e = .returned (.slice a (2*(wo+2)+1) c)/\LL.length=2*(wo+2)+1/\Vb w' W.heap.size a c LL/\Wds LL/\vW LL=lo*lo/\Bw_ W w'):=fun W hW=>by
  have:=Zjd W a1 c1 L (S.o1.reads.below hW nr_) S.p1 (by omega)
  rw[l1,v1] at this;exact this
 have iE:Hid (∀ W,Bw_ w W->Calls Tryz.prog 306 #[.slice a2 (wo+2) c2] W fun e w'=>∃ a c LL,e = .returned (.slice a (2*(wo+2)+1) c)/\LL.length=2*(wo+2)+1/\Vb w' W.heap.size a c LL/\Wds LL/\vW LL=hi*hi/\Bw_ W w'):=fun W hW=>by
  have:=Zjd W a2 c2 H (S.o2.reads.below hW nr_) S.p2 (by omega)
  rw[l2,v2] at this;exact this
 have HS:=hd_ S;have dF:=hd_ Dn
 -- the shifts
 have jV:Hid (∀ W a c (LL:List Nat) v,Ql W a LL->Wds LL->LL.length=2*(wo+2)+1->vW LL=v->Calls Tryz.prog 307 #[.slice a (2*(wo+2)+1) c,.int .i64 P] W fun e w'=>∃ a c S,e = .returned (.slice a (wo+5) c)/\S.length=wo+5/\Vb w' W.heap.size a c S/\Wds S/\vW S=v/2^P/\Bw_ W w'):=fun W a c LL v h1 h2 h3 h4=>by
  have:=Zhh W a c LL P wo r JG bm h1 h2 (by omega) (by omega)
  rw[h3,show 2*(wo+2)+1-wo=wo+5 by omega] at this;refine this.mono ?_;rintro e w' ⟨a',c',rfl,ho,hb⟩;refine⟨a',c',_,rfl,Vi ..,ho,Zow h2 bm,?_,hb⟩;rw[Zox h2 bm (by omega),h4,<- JG]
 have J6:Hid (∀ W a c (LL:List Nat) k v,Ql W a LL->Wds LL->LL.length=k->0<k->k<=1000->vW LL=v->Calls Tryz.prog 308 #[.slice a k c] W fun e w'=>∃ a c S,e = .returned (.slice a (k+1) c)/\S.length=k+1/\Vb w' W.heap.size a c S/\Wds S/\vW S=v+1/\Bw_ W w'):=fun W a c LL k v h1 h2 h3 h0 hk h4=>by
  have:=Zzp W a c LL h1 h2 (by omega) (by omega)
  rw[h3,h4] at this;exact this
 have Md:Hid (∀ W a c (LL:List Nat) k v,Ql W a LL->Wds LL->LL.length=k->wo+2<k->k<=1000->vW LL=v->Kc Tryz.prog 309 #[.slice a k c,.int .i64 ((P:Int)+1)] W (.bool (decide (2*2^P<=v)))):=fun W a c LL k v h1 h2 h3 h0 hk h4=>by
  have:=Zo4 W a c LL (P+1) ((P+1)/64) ((P+1)%64) (by omega) (Nat.mod_lt _ (by decide)) h1 h2 (by omega) (by omega)
  rw[h3,h4,Nat.pow_succ,Nat.mul_comm] at this;exact this
 have nM:IntKind.i64.wrap ((P:Int)+1)=(P:Int)+1:=iw_ _ (by omega);have dZ:Hid (∀ W a c (LL:List Nat) k v,Ql W a LL->Wds LL->LL.length=k->0<k->k<=1000->vW LL=v->Calls Tryz.prog 307 #[.slice a k c,.int .i64 1] W fun e w'=>∃ a c S,e = .returned (.slice a k c)/\S.length=k/\Vb w' W.heap.size a c S/\Wds S/\vW S=v/2/\Bw_ W w'):=fun W a c LL k v h1 h2 h3 h0 hk h4=>by
  have:=Zhh W a c LL 1 0 1 rfl (by decide) h1 h2 (by omega) (by omega)
  rw[h3,Nat.sub_zero] at this;refine this.mono ?_;rintro e w' ⟨a',c',rfl,ho,hb⟩;refine⟨a',c',_,rfl,Vi ..,ho,Zow h2 (by decide),?_,hb⟩;rw[Zox h2 (by decide) (by omega),h4]
 have hq:Int.tdiv (P:Int) 64=(wo:Nat):=by rw[Int.tdiv_eq_ediv_of_nonneg (by omega)];omega
 have Ia:(P:Int)/64=(wo:Nat):=by omega
 have bq:IntKind.i64.wrap ((wo:Int)+2)=(wo:Int)+2:=iw_ _ (by omega);have pU:Hid (lo*lo/2^P<=hi*hi/2^P+1):=Nat.le_succ_of_le (Nat.div_le_div_right (Nat.mul_le_mul fz fz));have gR:Hid (Zgf (2^P) lo hi=if 2*2^P<=lo*lo/2^P then some (true,lo*lo/2^P/2,(hi*hi/2^P+1)/2+1) else if 2*2^P<=hi*hi/2^P+1 then none else some (false,lo*lo/2^P,hi*hi/2^P+1)):=rfl;generalize Zgf (2^P) lo hi=st at *;clear S Dn l1 l2 v1 v2 JG hwo hr;have q0:=NW.cell k0;have q1:=NW.cell k1;have q2:=NW.cell k2;have gn:Nonempty (NW w):=⟨⟨w,Below.refl _ _⟩⟩;have I:Hid (Bw_ w w.drew):=(Below.refl _ _).drew;go_enter Tryz.func293,Tryz.ntmps293;go_wp2_with fail;refine wn_ 25 [(2,0),(2,1),(2,2),(2,3),(2,4),(1,5),(2,7),(2,8),(2,9),(1,10),(2,12),(2,13),(2,14),(1,15),(2,17),(2,18),(2,19),(1,20),(0,6),(0,11),(0,16),(0,21),(0,22),(2,23),(2,24),(0,25),(2,26),(2,27),(0,28)] I ?_;iterate 5 (refine wa_ rfl ?_;go_big_quiet_step (fail);refine wq_ ?_)
 refine wr_ rfl ?_;go_big_quiet_step (fail);refine wq_ ?_;iterate 3 (refine wa_ rfl ?_;go_big_quiet_step (fail);refine wq_ ?_)
 refine wr_ rfl ?_;go_big_quiet_step (fail);refine wq_ ?_;iterate 3 (refine wa_ rfl ?_;go_big_quiet_step (fail);refine wq_ ?_)
 refine wr_ rfl ?_;go_big_quiet_step (fail);refine wq_ ?_;iterate 3 (refine wa_ rfl ?_;go_big_quiet_step (fail);refine wq_ ?_)
 refine wr_ rfl ?_;go_big_quiet_step (fail);refine wq_ ?_;clear gn q0 q1 q2 k0 k1 k2;refine wm_ rfl ?_;go_wp2_with fail;refine cm_ (jW.o _ I.o) ?_;rintro e w1 ⟨b1,d1,L1,rfl,hl,ho,hp,hv,hb⟩;have I1:Hid (Bw_ w w1):=I.o.trans (hb.mono I.o.size);have bg:=hd_ (And.intro hl hv);have O1:=hd_ ho;have P1:=hd_ hp;clear hl ho hp hv hb jW I;go_wp2_with fail;refine⟨⟨⟨_,I1.o⟩,rfl⟩,?_⟩;refine wm_ rfl ?_;go_wp2_with fail;refine cm_ (jV.o _ _ _ L1 (lo*lo) O1.o.reads P1.o bg.o.1 bg.o.2) ?_;rintro e w2 ⟨b2,d2,L2,rfl,hl,ho,hp,hv,hb⟩;have I2:Hid (Bw_ w w2):=I1.o.trans (hb.mono I1.o.size);have eC:=hd_ (And.intro hl hv);have O2:=hd_ (ho.mono I1.o.size);have P2:=hd_ hp;clear hl ho hp hv hb bg O1 P1 I1;go_wp2_with fail;refine⟨⟨⟨_,I2.o⟩,rfl⟩,?_⟩;refine wm_ rfl ?_;go_wp2_with fail;refine cm_ (iE.o _ I2.o) ?_;rintro e w3 ⟨b3,d3,L3,rfl,hl,ho,hp,hv,hb⟩;have I3:Hid (Bw_ w w3):=I2.o.trans (hb.mono I2.o.size);have IR:=hd_ (O2.o.below hb nr_);have Mm:=hd_ (And.intro hl hv);have O3:=hd_ ho;have P3:=hd_ hp;clear hl ho hp hv hb iE I2 O2;go_wp2_with fail;refine⟨⟨⟨_,I3.o⟩,rfl⟩,?_⟩;refine wm_ rfl ?_;go_wp2_with fail;refine cm_ (jV.o _ _ _ L3 (hi*hi) O3.o.reads P3.o Mm.o.1 Mm.o.2) ?_;rintro e w4 ⟨b4,d4,L4,rfl,hl,ho,hp,hv,hb⟩;have I4:Hid (Bw_ w w4):=I3.o.trans (hb.mono I3.o.size);have O2:=hd_ (IR.o.below hb nr_);have Ml:=hd_ (And.intro hl hv);have O4:=hd_ ho;have P4:=hd_ hp;clear hl ho hp hv hb Mm O3 P3 I3 IR;go_wp2_with fail;refine⟨⟨⟨_,I4.o⟩,rfl⟩,?_⟩;refine wm_ rfl ?_;go_wp2_with fail;refine cm_ (J6.o _ _ _ L4 (wo+5) (hi*hi/2^P) O4.o.reads P4.o Ml.o.1 (by omega) (by omega) Ml.o.2) ?_;rintro e w5 ⟨b5,d5,L5,rfl,hl,ho,hp,hv,hb⟩;have I5:Hid (Bw_ w w5):=I4.o.trans (hb.mono I4.o.size);have IR:=hd_ (O2.o.below hb nr_);have DG:=hd_ (And.intro hl hv);have O5:=hd_ (ho.mono I4.o.size);have P5:=hd_ hp;have Mb:=hd_ (HS.o.below I5.o);obtain⟨k0,k1,k2,kf⟩:=Kd Mb.o.ob;clear hl ho hp hv hb Ml O4 P4 I4 O2;go_wp2_with fail;refine⟨⟨⟨_,I5.o⟩,rfl⟩,?_⟩;iterate 2 (refine wa_ rfl ?_;go_big_quiet_step (fail);refine wq_ ?_)
 have Iu:=kf 0;have aE:=kf 1;refine wm_ rfl ?_;go_wp2_with fail;iterate 2 (refine wa_ rfl ?_;go_big_quiet_step (fail);refine wq_ ?_)
 refine wm_ rfl ?_;go_wp2_with fail;simp only[RP.walkR];have G7:=Mb.o.put ii IR.o O5.o P2.o P5.o (Zbe I5.o);rw[eC.o.1,DG.o.1] at G7;have LE:=G7.1;have G6:=hd_ G7.2;obtain⟨k0,k1,k2,kf⟩:=Kd LE.ob;rw[eC.o.1] at k0;rw[DG.o.1] at k1;have iD:=hd_ LE;clear G7 LE Mb IR O5 Iu aE I5 HS;generalize (w5.setCell ⟨R,0,none⟩ (.slice b2 (wo+5) d2)).setCell ⟨R,1,none⟩ (.slice b5 (wo+5+1) d5)=w6 at *;have q0:=NW.cell k0;have q1:=NW.cell k1;have q2:=NW.cell k2;have gn:Nonempty (NW w6):=⟨⟨w6,Below.refl _ _⟩⟩;have I:Hid (Bw_ w6 w6.drew):=(Below.refl _ _).drew;go_wp2_with fail;refine wn_ 19 [(2,0),(2,1),(2,2),(1,3),(2,4),(2,5),(2,6),(1,7),(2,8),(2,10),(2,11),(2,12),(1,13),(2,14),(2,15),(2,16),(1,17),(2,18),(0,9),(0,19),(2,20),(2,21)] I ?_;iterate 3 (refine wa_ rfl ?_;go_big_quiet_step (fail);refine wq_ ?_)
 refine wr_ rfl ?_;go_big_quiet_step (fail);refine wq_ ?_;iterate 3 (refine wa_ rfl ?_;go_big_quiet_step (fail);refine wq_ ?_)
 refine wr_ rfl ?_;go_big_quiet_step (fail);refine wq_ ?_;iterate 4 (refine wa_ rfl ?_;go_big_quiet_step (fail);refine wq_ ?_)
 refine wr_ rfl ?_;go_big_quiet_step (fail);refine wq_ ?_;iterate 3 (refine wa_ rfl ?_;go_big_quiet_step (fail);refine wq_ ?_)
 refine wr_ rfl ?_;go_big_quiet_step (fail);refine wq_ ?_;refine wa_ rfl ?_;go_big_quiet_step (fail);refine wq_ ?_;clear gn q0 q1 q2 k0 k1 k2;refine wm_ rfl ?_;go_wp2_with fail;refine cm_ (Md.o _ _ _ L2 (wo+5) (lo*lo/2^P) ((iD.o.o1.reads.below I.o nr_)) P2.o eC.o.1 (by omega) (by omega) eC.o.2) ?_;rintro e w7 ⟨rfl,hb⟩;have I7:Hid (Bw_ w6 w7):=I.o.trans (hb.mono I.o.size);clear hb I;go_wp2_with fail;refine⟨⟨⟨_,I7.o⟩,rfl⟩,?_⟩;refine wm_ rfl ?_;go_wp2_with fail;refine cm_ (Md.o _ _ _ L5 (wo+5+1) (hi*hi/2^P+1) ((iD.o.o2.reads.below I7.o nr_)) P5.o DG.o.1 (by omega) (by omega) DG.o.2) ?_;rintro e w8 ⟨rfl,hb⟩;have I8:Hid (Bw_ w6 w8):=I7.o.trans (hb.mono I7.o.size);clear hb I7 Md;go_wp2_with fail;iterate 2 (refine wa_ rfl ?_;go_big_quiet_step (fail);refine wq_ ?_)
 simp only[RP.walkR];have dD:=hd_ (iD.o.below I8.o);have G8:=hd_ (Qk G6.o (Zbe (R:=R) I8.o));clear iD G6 I8;generalize lo*lo/2^P=M at *;generalize hi*hi/2^P+1=G at *;generalize 2*2^P=u2 at *
 by_cases cA:u2<=M
 ·have cB:u2<=G:=Nat.le_trans cA pU.o;have GZ:st=some (true,M/2,G/2+1):=by rw[gR.o,if_pos cA]
  subst GZ;rw[decide_eq_true cA,decide_eq_true cB];obtain⟨k0,k1,k2,kf⟩:=Kd dD.o.ob;rw[eC.o.1] at k0;rw[DG.o.1] at k1;have q0:=NW.cell k0;have q1:=NW.cell k1;have gn:Nonempty (NW w8):=⟨⟨w8,Below.refl _ _⟩⟩;have I:Hid (Bw_ w8 w8.drew):=(Below.refl _ _).drew;clear k2 kf;go_wp2_with fail;refine wn_ 15 [(2,0),(2,1),(2,2),(2,3),(2,4),(1,5),(2,7),(2,8),(2,9),(1,10),(0,6),(0,11),(0,12),(2,13),(2,14),(0,15),(2,16),(2,17),(0,18)] I ?_;iterate 5 (refine wa_ rfl ?_;go_big_quiet_step (fail);refine wq_ ?_)
  refine wr_ rfl ?_;go_big_quiet_step (fail);refine wq_ ?_;iterate 3 (refine wa_ rfl ?_;go_big_quiet_step (fail);refine wq_ ?_)
  refine wr_ rfl ?_;go_big_quiet_step (fail);refine wq_ ?_;clear gn q0 q1 k0 k1;refine wm_ rfl ?_;go_wp2_with fail;refine cm_ (dZ.o _ _ _ L2 (wo+5) M (dD.o.o1.reads.below I.o nr_) P2.o eC.o.1 (by omega) (by omega) eC.o.2) ?_;rintro e w9 ⟨b6,d6,L6,rfl,hl,ho,hp,hv,hb⟩;have I9:Hid (Bw_ w8 w9):=I.o.trans (hb.mono I.o.size);have AH:=hd_ (And.intro hl hv);have O6:=hd_ (ho.mono I.o.size);have P6:=hd_ hp;clear hl ho hp hv hb I;go_wp2_with fail;refine⟨⟨⟨_,I9.o⟩,rfl⟩,?_⟩;refine wm_ rfl ?_;go_wp2_with fail;refine cm_ (dZ.o _ _ _ L5 (wo+5+1) G (dD.o.o2.reads.below I9.o nr_) P5.o DG.o.1 (by omega) (by omega) DG.o.2) ?_;rintro e w10 ⟨b7,d7,L7,rfl,hl,ho,hp,hv,hb⟩;have IU:Hid (Bw_ w8 w10):=I9.o.trans (hb.mono I9.o.size);have n7:=hd_ (O6.o.below hb nr_);have Mk:=hd_ (And.intro hl hv);have O7:=hd_ ho;have P7:=hd_ hp;clear hl ho hp hv hb I9 O6;go_wp2_with fail;refine⟨⟨⟨_,IU.o⟩,rfl⟩,?_⟩;refine wm_ rfl ?_;go_wp2_with fail;refine cm_ (J6.o _ _ _ L7 (wo+5+1) (G/2) O7.o.reads P7.o Mk.o.1 (by omega) (by omega) Mk.o.2) ?_;rintro e w11 ⟨b8,d8,L8,rfl,hl,ho,hp,hv,hb⟩;have JN:Hid (Bw_ w8 w11):=IU.o.trans (hb.mono IU.o.size);have O6:=hd_ (n7.o.below hb nr_);have AG:=hd_ (And.intro hl hv);have O8:=hd_ (ho.mono IU.o.size);have P8:=hd_ hp;have Ay:=hd_ (dD.o.below JN.o);obtain⟨k0,k1,k2,kf⟩:=Kd Ay.o.ob;have Iu:=kf 0;have aE:=kf 1;have nL:=hd_ (Nat.lt_of_lt_of_le ii G8.o.size);clear hl ho hp hv hb Mk O7 P7 IU n7 dD;go_wp2_with fail;refine⟨⟨⟨_,JN.o⟩,rfl⟩,?_⟩;iterate 2 (refine wa_ rfl ?_;go_big_quiet_step (fail);refine wq_ ?_)
  refine wm_ rfl ?_;go_wp2_with fail;iterate 2 (refine wa_ rfl ?_;go_big_quiet_step (fail);refine wq_ ?_)
  refine wm_ rfl ?_;go_wp2_with fail;simp only[RP.walkR];have G7:=Ay.o.put nL.o O6.o O8.o P6.o P8.o (Qk G8.o (Zbe (R:=R) JN.o));rw[AH.o.1,AG.o.1] at G7;have eh:=hd_ G7.1;have PA:=hd_ G7.2;have Py:=hd_ G8.o.size;clear G7 Ay O6 O8 Iu aE JN k0 k1 k2 kf G8;generalize (w11.setCell ⟨R,0,none⟩ (.slice b6 (wo+5) d6)).setCell ⟨R,1,none⟩ (.slice b8 (wo+5+1+1) d8)=w12 at *;obtain⟨k0,k1,k2,kf⟩:=Kd eh.o.ob;rw[AH.o.1] at k0;rw[AG.o.1] at k1;have Iy:wo+2<=d6:=by have:=eh.o.o1.cap;rw[AH.o.1] at this;omega
  have Ix:wo+2<=d8:=by have:=eh.o.o2.cap;rw[AG.o.1] at this;omega
  have O1:=eh.o.o1.cut (wo+2) (by rw[AH.o.1];omega);have O2:=eh.o.o2.cut (wo+2) (by rw[AG.o.1];omega);have W1:=eh.o.p1.take (wo+2);have W2:=eh.o.p2.take (wo+2);have N1:(L6.take (wo+2)).length=wo+2:=by rw[List.length_take,AH.o.1];omega
  have N2:(L8.take (wo+2)).length=wo+2:=by rw[List.length_take,AG.o.1];omega
  have V1:vW (L6.take (wo+2))=M/2:=by rw[Zkg eh.o.p1 (by rw[AH.o.1];omega),AH.o.2];exact Nat.mod_eq_of_lt (dF.o _ rfl).1
  have V2:vW (L8.take (wo+2))=G/2+1:=by rw[Zkg eh.o.p2 (by rw[AG.o.1];omega),AG.o.2];exact Nat.mod_eq_of_lt (dF.o _ rfl).2
  have G7:=(eh.o.below (Qd w12 1)).put nL.o (O1.below (Qd w12 1) nr_) (O2.below (Qd w12 1) nr_) W1 W2 (Qk PA.o (Zbe (R:=R) (Qd w12 1)));rw[N1,N2] at G7;have HF:=hd_ G7;have HV:=hd_ (And.intro V1 V2);have HN:=hd_ (And.intro N1 N2);clear O1 O2 W1 W2 N1 N2 V1 V2 G7;have Iu:(w12.drewN 1).frozen? ⟨R,0,none⟩=false:=kf 0;have aE:(w12.drewN 1).frozen? ⟨R,1,none⟩=false:=kf 1;have q0:=NW.cell k0;have q1:=NW.cell k1;have gn:Nonempty (NW w12):=⟨⟨w12,Below.refl _ _⟩⟩;have I:Hid (Bw_ w12 w12.drew):=(Below.refl _ _).drew;have lY:(wo:Int)+2<=(wo:Int)+5:=by omega
  have Gk:(wo:Int)+2<=(wo:Int)+5+1+1:=by omega
  have f7:min (5:Int) 2=2:=by decide
  have eG:min ((wo:Int)+5+1+1) ((wo:Int)+2)=(wo:Int)+2:=by omega
  have o4:((wo:Int)+2).toNat=wo+2:=by omega
  go_wp2_with fail;refine wn_ 28 [(2,0),(2,1),(2,2),(2,3),(2,4),(1,5),(2,6),(2,7),(2,8),(1,9),(2,10),(2,11),(2,12),(2,13),(2,14),(2,15),(2,16),(1,17),(2,18),(2,19),(2,20),(1,21),(2,22),(2,23),(2,24),(2,25),(2,26),(2,27),(0,28),(2,29),(2,30),(0,31)] I ?_;iterate 5 (refine wa_ rfl ?_;go_big_quiet_step (fail);refine wq_ ?_)
  refine wr_ rfl ?_;go_big_quiet_step (fail);refine wq_ ?_;iterate 3 (refine wa_ rfl ?_;go_big_quiet_step (fail);refine wq_ ?_)
  refine wr_ rfl ?_;go_big_quiet_step (fail);refine wq_ ?_;iterate 7 (refine wa_ rfl ?_;go_big_quiet_step (fail);refine wq_ ?_)
  refine wr_ rfl ?_;go_big_quiet_step (fail);refine wq_ ?_;iterate 3 (refine wa_ rfl ?_;go_big_quiet_step (fail);refine wq_ ?_)
  refine wr_ rfl ?_;go_big_quiet_step (fail);refine wq_ ?_;iterate 6 (refine wa_ rfl ?_;go_big_quiet_step (fail);refine wq_ ?_)
  iterate 1 (refine wm_ rfl ?_;go_wp2_with fail)
  iterate 2 (refine wa_ rfl ?_;go_big_quiet_step (fail);refine wq_ ?_)
  iterate 1 (refine wm_ rfl ?_;go_wp2_with fail)
  simp only[RP.walkR];go_wp2_with fail
  go_ret2
  refine⟨HF.o.2,rfl,⟨_,_,_,_,_,_,HF.o.1.mono (Nat.le_trans hB Py.o),JJ,?_,?_,HV.o.1,HV.o.2⟩⟩
  ·rw[JQ.o];exact HN.o.1
  ·rw[JQ.o];exact HN.o.2
 ·by_cases cB:u2<=G
  ·have GZ:st=none:=by rw[gR.o,if_neg cA,if_pos cB]
   subst GZ;rw[decide_eq_false cA,decide_eq_true cB];go_wp2_with fail
   go_ret2
   exact⟨G8.o,rfl⟩
  ·have GZ:st=some (false,M,G):=by rw[gR.o,if_neg cA,if_neg cB]
   subst GZ;rw[decide_eq_false cA,decide_eq_false cB];obtain⟨k0,k1,k2,kf⟩:=Kd dD.o.ob;rw[eC.o.1] at k0;rw[DG.o.1] at k1;have Iy:wo+2<=d2:=by have:=dD.o.o1.cap;rw[eC.o.1] at this;omega
   have Ix:wo+2<=d5:=by have:=dD.o.o2.cap;rw[DG.o.1] at this;omega
   have O1:=dD.o.o1.cut (wo+2) (by rw[eC.o.1];omega);have O2:=dD.o.o2.cut (wo+2) (by rw[DG.o.1];omega);have W1:=dD.o.p1.take (wo+2);have W2:=dD.o.p2.take (wo+2);have N1:(L2.take (wo+2)).length=wo+2:=by rw[List.length_take,eC.o.1];omega
   have N2:(L5.take (wo+2)).length=wo+2:=by rw[List.length_take,DG.o.1];omega
   have V1:vW (L2.take (wo+2))=M:=by rw[Zkg dD.o.p1 (by rw[eC.o.1];omega),eC.o.2];exact Nat.mod_eq_of_lt (dF.o _ rfl).1
   have V2:vW (L5.take (wo+2))=G:=by rw[Zkg dD.o.p2 (by rw[DG.o.1];omega),DG.o.2];exact Nat.mod_eq_of_lt (dF.o _ rfl).2
   have G7:=(dD.o.below (Qd w8 1)).put ii (O1.below (Qd w8 1) nr_) (O2.below (Qd w8 1) nr_) W1 W2 (Qk G8.o (Zbe (R:=R) (Qd w8 1)));rw[N1,N2] at G7;have HF:=hd_ G7;have HV:=hd_ (And.intro V1 V2);have HN:=hd_ (And.intro N1 N2);clear O1 O2 W1 W2 N1 N2 V1 V2 G7;have Iu:(w8.drewN 1).frozen? ⟨R,0,none⟩=false:=kf 0;have aE:(w8.drewN 1).frozen? ⟨R,1,none⟩=false:=kf 1;have q0:=NW.cell k0;have q1:=NW.cell k1;have gn:Nonempty (NW w8):=⟨⟨w8,Below.refl _ _⟩⟩;have I:Hid (Bw_ w8 w8.drew):=(Below.refl _ _).drew;have lY:(wo:Int)+2<=(wo:Int)+5:=by omega
   have Gk:(wo:Int)+2<=(wo:Int)+5+1:=by omega
   have f7:min (5:Int) 2=2:=by decide
   have eG:min ((wo:Int)+5+1) ((wo:Int)+2)=(wo:Int)+2:=by omega
   have o4:((wo:Int)+2).toNat=wo+2:=by omega
   go_wp2_with fail;refine wn_ 28 [(2,0),(2,1),(2,2),(2,3),(2,4),(1,5),(2,6),(2,7),(2,8),(1,9),(2,10),(2,11),(2,12),(2,13),(2,14),(2,15),(2,16),(1,17),(2,18),(2,19),(2,20),(1,21),(2,22),(2,23),(2,24),(2,25),(2,26),(2,27),(0,28),(2,29),(2,30),(0,31)] I ?_;iterate 5 (refine wa_ rfl ?_;go_big_quiet_step (fail);refine wq_ ?_)
   refine wr_ rfl ?_;go_big_quiet_step (fail);refine wq_ ?_;iterate 3 (refine wa_ rfl ?_;go_big_quiet_step (fail);refine wq_ ?_)
   refine wr_ rfl ?_;go_big_quiet_step (fail);refine wq_ ?_;iterate 7 (refine wa_ rfl ?_;go_big_quiet_step (fail);refine wq_ ?_)
   refine wr_ rfl ?_;go_big_quiet_step (fail);refine wq_ ?_;iterate 3 (refine wa_ rfl ?_;go_big_quiet_step (fail);refine wq_ ?_)
   refine wr_ rfl ?_;go_big_quiet_step (fail);refine wq_ ?_;iterate 6 (refine wa_ rfl ?_;go_big_quiet_step (fail);refine wq_ ?_)
   iterate 1 (refine wm_ rfl ?_;go_wp2_with fail)
   iterate 2 (refine wa_ rfl ?_;go_big_quiet_step (fail);refine wq_ ?_)
   iterate 1 (refine wm_ rfl ?_;go_wp2_with fail)
   simp only[RP.walkR];go_wp2_with fail
   go_ret2
   refine⟨HF.o.2,rfl,⟨_,_,_,_,_,_,HF.o.1.mono hB,JJ,?_,?_,HV.o.1,HV.o.2⟩⟩
   ·rw[JQ.o];exact HN.o.1
   ·rw[JQ.o];exact HN.o.2
def Zb6 (l:List Bool):List Value:=l.map Value.bool
theorem Zan(l:List Bool):(Zb6 l).length=l.length:=by simp[Zb6]
theorem Zn5(l m:List Bool):Zb6 (l++m)=Zb6 l++Zb6 m:=by simp[Zb6]
theorem Zik(l:List Bool)(j:Nat)(h:j<l.length):(Zb6 l)[j]?=some (.bool (l.getD j false)):=by
 simp[Zb6,List.getD_eq_getElem?_getD,h]
theorem Qcd:(Tryz.prog.info? 4).map (fun i=>(i.zero,i.size,i.bytes))=some (some (.bool false),1,1):=by kernel_rfl
theorem Qih:Zbw Tryz.prog 315 4 (.bool false) 1 1:=⟨Tryz.underlying315,info_parts Qcd,rfl,by decide⟩
def Zi5 (w:World) (B:Nat) (a:OA_) (c:Nat) (l:List Bool):Prop:=w.ownsRow B 4 1 (.slice a l.length c) l.length (Zb6 l)
structure BoI (w:World) (B:Nat) (a:OA_) (c:Nat) (l:List Bool):Prop where
 own:Zi5 w B a c l
 fst:∀ k,(Value.slice a l.length c).ownBlock=some k->∃ b,w.cell? ⟨k,0,none⟩=some (.bool b)
theorem BoI.nil(w:World)(B:Nat):BoI w B none 0 []:=⟨World.ownsRow_nil ..,fun k h=>by simp[Value.ownBlock] at h⟩
theorem BoI.of{w:World}{B:Nat}{a:OA_}{c:Nat}{l:List Bool}(h:Zi5 w B a c l)(h0:0<l.length):BoI w B a c l:=by
 refine⟨h,fun k hk=>?_⟩;obtain⟨g,cap,hv,h1,h2,h3,h4,h5⟩:=Qz h h0;simp only[Value.slice.injEq] at hv;obtain⟨rfl,-,rfl⟩:=hv;have e:g=k:=by simpa [Value.ownBlock] using hk
 subst e;have:=h4 0 (by omega)
 rw[Zik l 0 h0] at this;exact⟨_,this⟩
theorem BoI.grown{w w':World}{B R:Nat}{a:OA_}{c:Nat}{l:List Bool}(h:BoI w B a c l)(hg:w.grownBy w' (some R))(hR:∀ b,w.cell? ⟨R,0,none⟩≠some (.bool b)):BoI w' B a c l:=by
 have gh:∀ k,(Value.slice a l.length c).ownBlock=some k->k≠R:=fun k hk e=>by
  obtain⟨b,hb⟩:=h.fst k hk;rw[e] at hb;exact hR b hb
 refine⟨World.ownsRow.kept h.own hg ?_,fun k hk=>?_⟩
 ·cases hv:(Value.slice a l.length c).ownBlock with
  | none=>simp
  | some k=>exact .inr fun e=>by cases e;exact gh _ hv rfl
 ·obtain⟨b,hb⟩:=h.fst k hk;refine⟨b,?_⟩;have hs:=block_lt_of_cell hb;have eW:=hg.block k hs (fun e=>gh k hk (by cases e;rfl));unfold World.cell? at hb ⊢;simp only at hb eW ⊢;rw[eW];exact hb
theorem Zyf.notBool{w:World}{B R P lo hi:Nat}(h:Zyf w B R P lo hi):∀ b,w.cell? ⟨R,0,none⟩≠some (.bool b):=fun b hb=>by
 obtain⟨a1,c1,L,a2,c2,H,S,-⟩:=h;rw[(Kd S.ob).1] at hb;cases hb
theorem Zyf.kept{w w':World}{B R P lo hi:Nat}(h:Zyf w B R P lo hi){row:Option Nat}(hg:w.grownBy w' row)(Gn:∀ k,row=some k->∃ b,w.cell? ⟨k,0,none⟩=some (.bool b)):Zyf w' B R P lo hi:=by
 obtain⟨a1,c1,L,a2,c2,H,S,hB,l1,l2,v1,v2⟩:=h;have Gg:∀ (a:OA_) (c:Nat) (l:List Nat),l.length=P/64+2->Vb w B a c l->Vb w' B a c l:=fun a c l hl ho=>by
  refine World.ownsRow.kept ho hg ?_;obtain⟨g,rfl,h1,h2,h3,h4,h5⟩:=ho.open (by omega);right;intro e;obtain⟨b,hb⟩:=Gn g (show row=some g from e.symm);rw[h4 0 (by omega)] at hb;cases hb
 refine⟨a1,c1,L,a2,c2,H,⟨?_,Gg _ _ _ l1 S.o1,Gg _ _ _ l2 S.o2,S.p1,S.p2⟩,hB,l1,l2,v1,v2⟩;rw[hg.block R (Array.getElem?_eq_some_iff.1 S.ob).1 (fun e=>?_)]
 ·exact S.ob
 ·obtain⟨b,hb⟩:=Gn R e.symm;rw[(Kd S.ob).1] at hb;cases hb
def Qg1 (w w':World) (p P n:Nat) (e:Ending):Prop :=
 Bw_ w w'/\match Vm p P n with
  | some _=>∃ a c,e = .returned (.tuple #[.slice a n c,.bool true])/\Zi5 w' w.heap.size a c (Zea p P n)
  | none=>e = .returned (.tuple #[.slice none 0 0,.bool false])
structure DgI (w wr:World) (R p P n j lo hi o:Nat) (a:OA_) (c:Nat):Prop where
 dg:Vm p P j=some (lo,hi,o)
 ma:Zyf wr w.heap.size R P lo hi
 bo:BoI wr w.heap.size a c (Zea p P j)
 bel:Bw_ w wr
theorem Zpz(w:World)(p n P:Nat)(hp:2<=p)(Gl:p<=97)(hl:p.log2<=6)(hn:n<=1000)(hP:n+64<=P)(hP2:P<=1300):
  Calls Tryz.prog 248 #[.int .i64 p,.int .i64 p.log2,.int .i64 n,.int .i64 P] w fun e w'=>Qg1 w w' p P n e:=by
 have HB:=hd_ (Zx6 w p p.log2 P (by omega) (by omega) (by omega));have H0:Hid (Vm p P 0=some (p*2^(P-p.log2),p*2^(P-p.log2),p.log2)):=rfl;have jI:Hid (∀ W R j lo hi o,w.heap.size<=W.heap.size->j<n->Vm p P j=some (lo,hi,o)->Zyf W w.heap.size R P lo hi->Calls Tryz.prog 293 #[.pointer (some ⟨R,0,none⟩)] W fun e w'=>Qcn W w' w.heap.size R P (Zgf (2^P) lo hi) e):=fun W R j lo hi o hW hj hd hM=>by
  refine Qem W w.heap.size R P lo hi hM (by omega) hW (Zp3 j _ hd) fun x hx=>?_
  have h1:=(Zhe (b:=x.1) (l':=x.2.1) (g':=x.2.2) hd hx).1;have h2:=Zr3 (P:=P) (by omega) (by omega) (j+1) (by omega) (by omega) _ h1;have h3:=Zp3 (j+1) _ h1;have h4:=Zw9 (P:=P) (n:=j+1) (by omega) (by omega) h2;exact⟨Nat.lt_of_le_of_lt h3 h4,h4⟩
 generalize hk:p.log2=k at *;have Hk:=hd_ hk;clear hk;go_enter Tryz.func248,Tryz.ntmps248;go_wp2_with fail;refine cm_ HB.o ?_;rintro e w1 ⟨R,rfl,hM,hb⟩;have J8:Hid (DgI w w1 R p P n 0 _ _ _ none 0):=⟨H0.o,hM,BoI.nil _ _,hb⟩;clear hM hb HB H0;go_wp2_with fail
 go_loopw [11,19] (fun v i wr=>∃ (j lo hi o:Nat) (a:OA_) (c:Nat),j<=n/\i = .int .i64 j/\v = .slice a j c/\Hid (DgI w wr R p P n j lo hi o a c)) (fun _ i _=>n-(intOf i).toNat)
 case atStart=>exact⟨0,_,_,_,none,0,Nat.zero_le _,rfl,rfl,J8⟩
 case round =>
  obtain⟨j,lo,hi,o,a,c,hj,rfl,rfl,HD⟩:=hrel;clear J8
  by_cases H7:j<n
  ·have gi:(j:Int)<n:=by omega
   have Om:IntKind.i64.wrap ((j:Int)+1)=((j+1:Nat):Int):=by rw[<- Int.natCast_succ];exact iw_ _ (by omega)
   go_wp2_with fail;refine cm_ (jI.o _ R j lo hi o HD.o.bel.size H7 HD.o.dg HD.o.ma) ?_;rintro e w2 ⟨hg,hm⟩;have JJ:w.heap.size<=R:=by obtain⟨_,_,_,_,_,_,-,h,-⟩:=HD.o.ma;exact h
   have B2:=hd_ (HD.o.bel.grown hg HD.o.bel.size (fun k hk=>by cases hk;exact JJ));have lh:=hd_ (HD.o.bo.grown hg HD.o.ma.notBool);have fL:=hd_ B2.o.size;cases GZ:Zgf (2^P) lo hi with
   | none =>
    rw[GZ] at hm;obtain rfl:=hm;have Cc:Hid (Vm p P n=none):=Znu (Zmk HD.o.dg GZ) H7;clear hg GZ HD jI lh;go_wp2_with fail
    go_ret2
    refine⟨B2.o,?_⟩;rw[Cc.o];rfl
   | some x =>
    rw[GZ] at hm;obtain⟨rfl,hM⟩:=hm;obtain⟨x1,x2,x3⟩:=x;obtain⟨Fm,HU⟩:=Zhe HD.o.dg GZ;have ez:=hd_ Fm;have H9:=hd_ HU;have HM:=hd_ hM;clear hg GZ HD hM Fm HU;have gw:Hid (w2.ownsRow w.heap.size 4 1 (.slice a j c) j (Zb6 (Zea p P j))):=by
     have:=lh.o.own
     unfold Zi5 at this;rw[Yj] at this;exact this
    have jB:Hid (∀ k,(Value.slice a j c).ownBlock=some k->∃ b,w2.cell? ⟨k,0,none⟩=some (.bool b)):=by
     have:=lh.o.fst
     rw[Yj] at this;exact this
    clear lh
    go_wp2_with (at_builtin;refine Ku rfl (.tmp 28) (.tmp 30) 315 rfl Qih _ 1 [.bool x1] rfl rfl gw.o fL.o rfl (by simp[Value.oneCell']) (by omega) (by omega) ?_)
    intro v' w3 gl gJ GN;obtain⟨a3,d3,rfl⟩:=Qp gl;have PC:Hid (Zi5 w3 w.heap.size a3 d3 (Zea p P (j+1))):=by
     show Zi5 _ _ _ _ _
     unfold Zi5;rw[Yj,Zuh,Zn5,H9.o];exact gl
    have M3:=hd_ ((show Zyf (w2.alloc (.cells #[.bool x1] 4)) w.heap.size R P x2 x3 from by
     obtain⟨a1,c1,L,a2,c2,H,S,h1,h2,h3,h4,h5⟩:=HM.o;exact⟨a1,c1,L,a2,c2,H,S.below ((Below.refl _ _).alloc nr_ _),h1,h2,h3,h4,h5⟩).kept gJ (fun k hk=>by
      obtain⟨b,hb⟩:=jB.o k hk;exact⟨b,Lib.cell?_alloc_some _ hb⟩))
    have B3:=hd_ ((B2.o.alloc fL.o (.cells #[.bool x1] 4)).grown gJ (by simp;have:=fL.o;omega) (fun k hk=>(World.ownsRow.lt gw.o k hk).1));clear gl gJ GN HM gw jB B2;go_wp2_with fail
    go_roundw
    case rel=>exact⟨j+1,x2,x3,_,a3,d3,by omega,by go_num,rfl,⟨ez.o,M3.o,BoI.of PC.o (by rw[Yj];omega),B3.o⟩⟩
    case measure=>simp[intOf];omega
  ·have bE:j=n:=by omega
   subst bE;have gi:¬ (j:Int)<j:=by omega
   have gw:Hid (Zi5 wr w.heap.size a c (Zea p P j)):=HD.o.bo.own;go_wp2_with fail
   go_ret2
   refine⟨HD.o.bel,?_⟩;rw[HD.o.dg];exact⟨a,c,rfl,gw.o⟩
theorem Zvz{w:World}{b o d:Nat}{V:List Value}(h:Rd w (some ⟨b,o,none⟩) V)(m:Nat)(hd:V.length<=d):Rd w (if d=m then some ⟨b,o,none⟩ else some ⟨b,o+m,none⟩) (V.drop m):=by
 split
 ·left;rw[List.drop_of_length_le (by omega)]
 ·rcases h with rfl | ⟨b',off,h1,h2,h3⟩
  ·left;simp
  ·simp only[Option.some.injEq,Addr.mk.injEq,and_true] at h1;obtain⟨rfl,rfl⟩:=h1;refine .inr ⟨b,o+m,rfl,h2,fun i v hi=>?_⟩;rw[List.getElem?_drop] at hi;rw[Nat.add_assoc];exact h3 (m+i) v hi
structure Qg5 (n:Nat) (bl:List Bool) (F:Nat->Nat):Prop where
 len:bl.length=n
 nxt:∀ j,j<n->F (j+1)=2*F j+(bl.getD j false).toNat
 sm:∀ j,j<=n->F j<2^(j+3)
theorem Qa0{p P n:Nat}(hp:2<=p)(Gl:p<=97)(hP:64<=P){s:Nat×Nat×Nat}(h:Vm p P n=some s):∃ F,Qg5 n (Zea p P n) F/\F 0=p.log2/\F n=s.2.2:=by
 refine⟨fun j=>match Vm p P j with | some s=>s.2.2 | none=>0,⟨Yj p P n,fun j hj=>?_,fun j hj=>?_⟩,rfl,?_⟩
 ·have h1:(Vm p P (j+1)).isSome:=Za4 hj (by rw[h];rfl);have h0:(Vm p P j).isSome:=Za4 (Nat.le_of_lt hj) (by rw[h];rfl);obtain⟨t,ht⟩:=Option.isSome_iff_exists.1 h1;obtain⟨u,hu⟩:=Option.isSome_iff_exists.1 h0;simp only[ht,hu];rw[Zx5 p P n j hj];exact Qay hu ht
 ·have h0:(Vm p P j).isSome:=Za4 hj (by rw[h];rfl);obtain⟨u,hu⟩:=Option.isSome_iff_exists.1 h0;simp only[hu];exact(Zxo p P hp Gl hP j _ hu).o
 ·simp only[h]
theorem Qaz(n:Nat):Qg5 n (List.replicate n false) (fun j=>2^j):=by
 refine⟨by simp,fun j hj=>?_,fun j hj=>Nat.pow_lt_pow_right (by decide) (by omega)⟩;have:(List.replicate n false).getD j false=false:=by rw[List.getD_eq_getElem?_getD,List.getElem?_replicate];split<;>rfl
 rw[this,Nat.pow_succ]
 show _=_+0
 omega
/-! The walk. -/
def K10:Nat:=1010
theorem k10:K10=1010:=rfl
theorem Qfs(n:Nat)(w:World)(hn:n<=100000000):
  (Instr.makeSlice 315 (.int .i64 (n:Int)) (.int .i64 (n:Int))).run Tryz.prog w = .ok (.slice (some ⟨w.heap.size,0,none⟩) n n) (w.alloc (.cells (Zb6 (List.replicate n false)).toArray 4)):=by
 have:=run_make_row' (P:=Tryz.prog) 315 4 (.bool false) 1 Tryz.underlying315 Qcd rfl .i64 .i64 n (by omega) (by omega) w
 rw[show madeCells #[.bool false] n=(Zb6 (List.replicate n false)).toArray by apply Array.ext';rw[toList_madeCells_one];simp[Zb6]] at this;exact this
theorem Zvy(w:World)(l:List Bool):Rd (w.alloc (.cells (Zb6 l).toArray 4)) (some ⟨w.heap.size,0,none⟩) (Zb6 l) :=
 .inr ⟨w.heap.size,0,rfl,by simp,fun i v hi=>by
  rw[Nat.zero_add,cell_of_row _ w.heap.size i _ 4 (0,0) (heap_alloc_new w _)]
  simpa using hi⟩
theorem Zzg{w:World}{B:Nat}{a:OA_}{c:Nat}{l:List Bool}(h:Zi5 w B a c l):Rd w a (Zb6 l):=by
 by_cases hn:0<l.length
 ·obtain⟨g,cap,hv,h1,h2,h3,h4,h5⟩:=Qz h hn;simp only[Value.slice.injEq] at hv;obtain⟨rfl,-,-⟩:=hv;refine .inr ⟨g,0,rfl,h2,fun i v hi=>?_⟩;have H7:=(List.getElem?_eq_some_iff.1 hi).1;rw[Zan] at H7;rw[Nat.zero_add,h4 i (by omega)];exact hi
 ·obtain rfl:=List.length_eq_zero_iff.1 (Nat.eq_zero_of_not_pos hn);exact .inl rfl
structure LoI (w wr:World) (n:Nat) (bl:List Bool) (j:Nat) (a:OA_) (c:Nat):Prop where
 rd:Rd wr a (Zb6 (bl.drop j))
 cap:n-j<=c
 bel:Bw_ w wr
theorem Zr0(w:World)(p n:Nat)(hp:p=2\/p∈Zba)(hn:n<=1000)(L:Qa w):
  Kc Tryz.prog 186 #[.int .i64 p,.int .i64 n] w (.string (dec (lgN p n))):=by
 unfold Kc;have dO:2<=p:=by
  rcases hp with h|h
  ·omega
  ·have:=Zaw h;have:=Zgn h;omega
 have Gl:p<=97:=by
  rcases hp with h|h
  ·omega
  ·have:=Zaw h;omega
 have hl:=Zpl p dO Gl;have eU:=hd_ (Tryz.bits_Len p w (by omega) (by omega));rw[show ((p:Nat):Int).toNat=p from rfl,Zft p (by omega) Gl] at eU;have fg:IntKind.i64.wrap (((p.log2+1:Nat):Int)-1)=(p.log2:Int):=by rw[show ((p.log2+1:Nat):Int)-1=(p.log2:Int) by omega];exact iw_ _ (by omega)
 have fS:IntKind.u64.wrap (p:Int)=p:=IntWalk.u64_in _ (by omega);have HL:=hd_ L;clear L;have Gh:Hid (∀ (z:Nat) W,z<=1000000000->Bw_ w W->Kc Tryz.prog 13 #[.int .i64 z] W (.string (dec z))):=fun z W hz hW=>by
  have:=Zaq W z (by omega) (by omega) (HL.o.below hW)
  rw[Kg] at this;exact this
 have Cf:Hid (∀ (x g:Nat) W,x<2^K10->g<=28->Bw_ w W->Kc Tryz.prog 14 #[.string (dec x),.string (dec (2^g))] W (.string (dec (x*2^g)))):=fun x g W hx hg hW =>
  Qg4 W x (2^g) K10 (by decide) hx (Nat.pow_lt_pow_right (by decide) (by rw[k10];omega)) (HL.o.below hW)
 have jO:Hid (∀ (x a g:Nat) W,x<2^K10->g<=28->a<2^g->Bw_ w W->Kc Tryz.prog 205 #[.string (dec (x*2^g)),.string (dec a)] W (.string (dec (x*2^g+a)))):=fun x a g W hx hg ha hW=>by
  refine Qbk W (x*2^g) a (K10+90) (by decide) ?_ ?_ (HL.o.below hW)
  ·refine Nat.lt_of_lt_of_le (Nat.mul_lt_mul_of_pos_right hx (Nat.two_pow_pos g)) ?_;rw[<- Nat.pow_add];exact Nat.pow_le_pow_right (by decide) (by omega)
  ·exact Nat.lt_of_lt_of_le ha (Nat.pow_le_pow_right (by decide) (by rw[k10];omega))
 have Aq:Hid (p≠2->∀ (P:Nat) W,n+64<=P->P<=1300->Calls Tryz.prog 248 #[.int .i64 p,.int .i64 p.log2,.int .i64 n,.int .i64 P] W fun e w'=>Qg1 W w' p P n e):=fun _ P W h1 h2=>Zpz W p n P dO Gl hl hn h1 h2
 have C8:Hid (∀ P,p≠2->1120<=P->Vm p P n≠none):=fun P h1 h2 h3=>by
  have:=Zln (hp.resolve_left h1) (show n<=1056 by omega) h2
  rw[h3] at this;cases this
 have DS:Hid (∀ (P:Nat) s,p≠2->64<=P->Vm p P n=some s->s.2.2=lgN p n):=fun P s h1 h2 h3=>Zeu (hp.resolve_left h1) (by omega) (by omega) h3
 have bX:Hid (p=2->lgN p n=2^n):=fun h=>by rw[h];exact Zb1 n
 have pS:=hd_ dO;have JU:=hd_ Gl;have Hn:=hd_ hn;have PS:p<=97:=Gl;have Jt:n<=1000:=hn;obtain⟨v,hv⟩:∃ v,lgN p n=v:=⟨_,rfl⟩;rw[hv] at DS bX ⊢;clear hv hp dO Gl hn;generalize hk:p.log2=k at *;have Hk:=hd_ hk;clear hk;go_enter Tryz.func186,Tryz.ntmps186;go_wp2_with fail;refine cm_ eU.o ?_;rintro e w1 ⟨rfl,hw1e⟩;clear eU;go_wp2_with fail;clear hw1e;refine cm_ (Gh.o k w (by omega) (Below.refl _ _)) ?_;rintro e w2 ⟨rfl,hb⟩;have B2:=hd_ hb;clear hb
 by_cases h2:p=2
 ·have Hv:Hid (v=2^n):=bX.o h2;have ey:Hid (k=1):=by
   show _=_
   rw[<- Hk.o,h2];decide +kernel
  subst h2;have fN:=Qfs n w2 (by omega);have JS:=hd_ (Zvy w2 (List.replicate n false));have B3:=hd_ (B2.o.alloc B2.o.size (.cells (Zb6 (List.replicate n false)).toArray 4));generalize w2.alloc (.cells (Zb6 (List.replicate n false)).toArray 4)=w3 at *;clear B2 Aq C8 DS bX;go_wp2_with fail
  go_loopw [7,8] (fun l q wr=>l = .slice (some ⟨w2.heap.size,0,none⟩) n n/\q = .int .i64 ((n:Int)+64)/\Hid (wr=w3)) (fun _ _ _=>0)
  case atStart=>exact⟨rfl,rfl,rfl⟩
  case round =>
   obtain⟨rfl,rfl,Fv⟩:=hrel;obtain rfl:=Fv.o;clear Fv;obtain⟨F,hF⟩:∃ F:Nat->Nat,F=fun j=>2^j:=⟨_,rfl⟩
   obtain⟨bl,eW⟩:∃ bl,bl=List.replicate n false:=⟨_,rfl⟩;have HF:Hid (Qg5 n bl F):=by show Qg5 n bl F;rw[eW,hF];exact Qaz n
   have Mo:Hid (F 0=k):=by show _=_;rw[hF,ey.o]
   have Mn:Hid (F n=v):=by show _=_;rw[hF,Hv.o]
   have HR:Hid (LoI w wr n bl 0 (some ⟨w2.heap.size,0,none⟩) n):=⟨by rw[List.drop_zero,eW];exact JS.o,by omega,B3.o⟩;clear hF eW Hv ey JS B3;go_wp2_with fail
   go_loopw [6,7] (fun s l wr=>∃ (j:Nat) (a:OA_) (c:Nat),j<=n/\s = .string (dec (F j))/\l = .slice a (n-j) c/\Hid (LoI w wr n bl j a c)) (fun _ l _=>match l with | .slice _ m _=>m | _=>0)
   case atStart=>exact⟨0,_,_,Nat.zero_le _,by rw[Mo.o],by rw[Nat.sub_zero],HR⟩
   case round =>
    clear HR;obtain⟨j,a,c,hj,rfl,rfl,HI⟩:=hrel;obtain⟨m,hm⟩:∃ m,n-j=m:=⟨_,rfl⟩;have lW:m<=1000:=by omega
    rw[hm]
    by_cases H7:0<m
    ·have gi:(0:Int)<m:=by omega
     obtain⟨g,hg⟩:∃ g,min m 28=g:=⟨_,rfl⟩;have E':g<=28:=by omega
     have Jy:g<=m:=by omega
     have fP:0<g:=by omega
     have lV:min (m:Int) 28=(g:Nat):=by omega
     have Lv:g<=c:=by have:=HI.o.cap;omega
     have jw:=hd_ (show j+g<=n by omega);obtain⟨b,off,rfl,hZ,GE⟩:=HI.o.rd.open (by rw[Zan,List.length_drop,HF.o.len];omega);have gq:Hid (∀ t,t<g->wr.cell? ⟨b,off+t,none⟩=some (.bool (bl.getD (j+t) false))):=fun t ht=>by
      refine GE t _ ?_;rw[Zik _ _ (by rw[List.length_drop,HF.o.len];omega)];rw[List.getD_eq_getElem?_getD,List.getD_eq_getElem?_getD,List.getElem?_drop]
     clear GE;obtain⟨wo,hwo⟩:∃ wo:World,wo=wr:=⟨_,rfl⟩;subst hwo;go_wp2_with fail
     go_loopw [11,49] (fun ad i wr=>∃ t x:Nat,t<=g/\i = .int .i64 t/\ad = .int .i64 x/\x<268435456/\Hid (x<2^t/\F (j+t)=F j*2^t+x)/\Hid (Bw_ wo wr)) (fun _ i _=>g-(intOf i).toNat)
     case atStart=>exact⟨0,0,Nat.zero_le _,rfl,rfl,by decide,⟨by decide,by simp⟩,Below.refl _ _⟩
     case round =>
      obtain⟨t,x,ht,rfl,rfl,hx,HX,HB⟩:=hrel
      by_cases Gk:t<g
      ·have Eg:(t:Int)<g:=by omega
       have cb:=gq.o t Gk;rw[<- HB.o.cell (p:=⟨b,off+t,none⟩) hZ] at cb;have GT:=HF.o.nxt (j+t) (by have:=jw.o;omega);have iV:=HX.o.1;have aj:2^(t+1)<=268435456:=Nat.le_trans (Nat.pow_le_pow_right (by decide) (show t+1<=28 by omega)) (by decide);have EN:2^(t+1)=2*2^t:=by rw[Nat.pow_succ,Nat.mul_comm]
       have lH:IntKind.i64.wrap ((x:Int)*2)=((2*x:Nat):Int):=by rw[show (x:Int)*2=((2*x:Nat):Int) by omega];exact iw_ _ (by omega)
       have af:IntKind.i64.wrap (((2*x:Nat):Int)+1)=((2*x+1:Nat):Int):=by rw[<- Int.natCast_succ];exact iw_ _ (by omega)
       have iX:IntKind.i64.wrap ((t:Int)+1)=((t+1:Nat):Int):=by rw[<- Int.natCast_succ];exact iw_ _ (by omega)
       have e1:F j*2^(t+1)=2*(F j*2^t):=by rw[EN];exact Nat.mul_left_comm ..
       have bK:=HX.o.2;cases hbv:bl.getD (j+t) false with
       | true =>
        have ff:Hid (2*x+1<2^(t+1)/\F (j+(t+1))=F j*2^(t+1)+(2*x+1)):=by
         refine⟨by omega,?_⟩;rw[hbv] at GT;rw[<- Nat.add_assoc,GT,bK,e1]
         show _+1=_
         omega
        have fR:2*x+1<268435456:=by have:=ff.o.1;omega
        rw[hbv] at cb;clear GT hbv HX e1 bK iV aj EN;go_wp2_with fail;refine⟨⟨t+1,2*x+1,by omega,by go_num,by go_num,fR,ff,HB⟩,by simp[intOf];omega⟩
       | false =>
        have ff:Hid (2*x<2^(t+1)/\F (j+(t+1))=F j*2^(t+1)+2*x):=by
         refine⟨by omega,?_⟩;rw[hbv] at GT;rw[<- Nat.add_assoc,GT,bK,e1]
         show _+0=_
         omega
        have fR:2*x<268435456:=by have:=ff.o.1;omega
        rw[hbv] at cb;clear GT hbv HX e1 bK iV aj EN af;go_wp2_with fail;refine⟨⟨t+1,2*x,by omega,by go_num,by go_num,fR,ff,HB⟩,by simp[intOf];omega⟩
      ·obtain rfl:t=g:=by omega
       have Eg:¬ (t:Int)<t:=by omega
       have IF:=HF.o.sm j hj;have di:F j<2^K10:=Nat.lt_of_lt_of_le IF (Nat.pow_le_pow_right (by decide) (by rw[k10];omega));obtain⟨G,hG⟩:∃ G,2^t=G:=⟨_,rfl⟩;have OW:G<=268435456:=by rw[<- hG];exact Nat.le_trans (Nat.pow_le_pow_right (by decide) E') (by decide)
       have OV:(2:Int)^t=(G:Nat):=by rw[<- hG,Int.natCast_pow];rfl
       have bk:IntKind.i64.wrap (G:Int)=(G:Nat):=iw_ _ (by omega);have hM:=fun W hW=>Cf.o (F j) t W di E' hW
       have hA:=fun W hW=>jO.o (F j) x t W di E' HX.o.1 hW
       have aM:=HX.o.2;rw[hG] at hM hA aM;have AZ:=hd_ (HI.o.bel.trans (HB.o.mono HI.o.bel.size));have HM:=hd_ hM;have HA:=hd_ hA;have jP:=hd_ aM;have D7:=hd_ (fun W hW=>Gh.o G W (by omega) hW);have D6:=hd_ (fun W hW=>Gh.o x W (by omega) hW);clear IF di hG hM hA aM HX;go_wp2_with fail;refine cm_ (D7.o _ AZ.o) ?_;rintro e w4 ⟨rfl,hb⟩;have B4:=bt_ AZ hb;have C4:=bt_ HB hb;clear hb;go_wp2_with fail;refine cm_ (HM.o _ B4.o) ?_;rintro e w5 ⟨rfl,hb⟩;have B5:=bt_ B4 hb;have C5:=bt_ C4 hb;clear hb B4 C4;go_wp2_with fail;refine cm_ (D6.o _ B5.o) ?_;rintro e w6 ⟨rfl,hb⟩;have B6:=bt_ B5 hb;have C6:=bt_ C5 hb;clear hb B5 C5;go_wp2_with fail;refine cm_ (HA.o _ B6.o) ?_;rintro e w7 ⟨rfl,hb⟩;have B7:=bt_ B6 hb;have C7:=bt_ C6 hb;clear hb B6 C6 D7 D6 HM HA HB AZ gq;have Me:=hd_ (Zvz (d:=c) (HI.o.rd.below C7.o nr_) t (by rw[Zan,List.length_drop,HF.o.len];have:=HI.o.cap;omega));have eA:=hd_ HI.o.cap;rw[<- jP.o];clear HI jP;go_wp2_with fail;refine⟨⟨j+t,_,c-t,jw.o,rfl,by rw[show n-(j+t)=m-t by omega],⟨?_,by have:=eA.o;omega,B7.o⟩⟩,by show m-t<m;omega⟩;have:=Me.o
       unfold Zb6 at this;rw[<- List.map_drop,List.drop_drop] at this;exact this
    ·obtain rfl:j=n:=by omega
     obtain rfl:m=0:=by omega
     go_wp2_with fail;go_ret;exact⟨by rw[Mn.o];rfl,HI.o.bel⟩
 ·have JL:((p:Int)==2)=false:=by rw[beq_eq_false_iff_ne];omega
  have rE:((p:Int) != 2)=true:=by rw[bne_iff_ne];omega
  have jC:=hd_ (Aq.o h2);have jl:=hd_ (fun P h=>C8.o P h2 h);have js:=hd_ (fun P s h=>DS.o P s h2 h);have jp:=hd_ (fun (P:Nat) (s:Nat×Nat×Nat) (h1:64<=P) (h:Vm p P n=some s)=>Qa0 pS.o JU.o h1 h);clear Aq C8 DS bX;have oU:IntKind.i64.wrap ((n:Int)+64)=((n+64:Nat):Int):=by rw[show (n:Int)+64=((n+64:Nat):Int) by omega];exact iw_ _ (by omega)
  go_wp2_with fail
  go_loopw [7,8] (fun l q wr=>∃ P:Nat,n+64<=P/\P<=1200/\l = .slice none 0 0/\q = .int .i64 P/\Hid (Bw_ w wr)) (fun _ q _=>1300-(intOf q).toNat)
  case atStart=>exact⟨n+64,Nat.le_refl _,by omega,rfl,rfl,B2⟩
  case round =>
   obtain⟨P,nM,hP2,rfl,rfl,B3⟩:=hrel;clear B2;go_wp2_with fail;refine cm_ (jC.o P _ nM (by omega)) ?_;rintro e w4 ⟨hb,hm⟩;have B4:=bt_ B3 hb;have rn:IntKind.i64.wrap ((P:Int)+64)=((P+64:Nat):Int):=by rw[show (P:Int)+64=((P+64:Nat):Int) by omega];exact iw_ _ (by omega)
   cases hd:Vm p P n with
   | none =>
    rw[hd] at hm;obtain rfl:=hm;have ro:P<1120:=Nat.lt_of_not_le fun h=>jl.o P h hd
    clear hb hd;go_wp2_with fail;refine⟨⟨P+64,by omega,by omega,rfl,by go_num,B4⟩,by simp[intOf];omega⟩
   | some s =>
    rw[hd] at hm;obtain⟨a0,c0,rfl,ho⟩:=hm;obtain⟨F,hF,hFk,hFn⟩:=jp.o P s (by omega) hd;have NU:=hd_ (Zzg ho);have BR:Hid (n<=c0):=by
     have:Zi5 w4 wr.heap.size a0 c0 (Zea p P n):=ho
     show n<=c0
     rcases this.2 with⟨h1,h0⟩|⟨g,cap,cur,h1,_,_,h2,_⟩
     ·simp only[Value.slice.injEq] at h1;rw[Yj] at h0;omega
     ·simp only[Value.slice.injEq] at h1;rw[Yj] at h2;omega
    have Mn:Hid (F n=v):=by show _=_;rw[hFn];exact js.o P s (by omega) hd
    have HF:=hd_ hF;have Mo:Hid (F 0=k):=by show _=_;rw[hFk,Hk.o]
    clear hF hFn hFk hb hd ho jC jl js jp B3;generalize Zea p P n=bl at *;have HR:Hid (LoI w w4 n bl 0 a0 c0):=⟨by rw[List.drop_zero];exact NU.o,by have:=BR.o;omega,B4.o⟩;clear NU BR B4;go_wp2_with fail
    go_loopw [6,7] (fun s l wr=>∃ (j:Nat) (a:OA_) (c:Nat),j<=n/\s = .string (dec (F j))/\l = .slice a (n-j) c/\Hid (LoI w wr n bl j a c)) (fun _ l _=>match l with | .slice _ m _=>m | _=>0)
    case atStart=>exact⟨0,_,_,Nat.zero_le _,by rw[Mo.o],by rw[Nat.sub_zero],HR⟩
    case round =>
     clear HR;obtain⟨j,a,c,hj,rfl,rfl,HI⟩:=hrel;obtain⟨m,hm⟩:∃ m,n-j=m:=⟨_,rfl⟩;have lW:m<=1000:=by omega
     rw[hm]
     by_cases H7:0<m
     ·have gi:(0:Int)<m:=by omega
      obtain⟨g,hg⟩:∃ g,min m 28=g:=⟨_,rfl⟩;have E':g<=28:=by omega
      have Jy:g<=m:=by omega
      have fP:0<g:=by omega
      have lV:min (m:Int) 28=(g:Nat):=by omega
      have Lv:g<=c:=by have:=HI.o.cap;omega
      have jw:=hd_ (show j+g<=n by omega);obtain⟨b,off,rfl,hZ,GE⟩:=HI.o.rd.open (by rw[Zan,List.length_drop,HF.o.len];omega);have gq:Hid (∀ t,t<g->wr.cell? ⟨b,off+t,none⟩=some (.bool (bl.getD (j+t) false))):=fun t ht=>by
       refine GE t _ ?_;rw[Zik _ _ (by rw[List.length_drop,HF.o.len];omega)];rw[List.getD_eq_getElem?_getD,List.getD_eq_getElem?_getD,List.getElem?_drop]
      clear GE;obtain⟨wo,hwo⟩:∃ wo:World,wo=wr:=⟨_,rfl⟩;subst hwo;go_wp2_with fail
      go_loopw [11,49] (fun ad i wr=>∃ t x:Nat,t<=g/\i = .int .i64 t/\ad = .int .i64 x/\x<268435456/\Hid (x<2^t/\F (j+t)=F j*2^t+x)/\Hid (Bw_ wo wr)) (fun _ i _=>g-(intOf i).toNat)
      case atStart=>exact⟨0,0,Nat.zero_le _,rfl,rfl,by decide,⟨by decide,by simp⟩,Below.refl _ _⟩
      case round =>
       obtain⟨t,x,ht,rfl,rfl,hx,HX,HB⟩:=hrel
       by_cases Gk:t<g
       ·have Eg:(t:Int)<g:=by omega
        have cb:=gq.o t Gk;rw[<- HB.o.cell (p:=⟨b,off+t,none⟩) hZ] at cb;have GT:=HF.o.nxt (j+t) (by have:=jw.o;omega);have iV:=HX.o.1;have aj:2^(t+1)<=268435456:=Nat.le_trans (Nat.pow_le_pow_right (by decide) (show t+1<=28 by omega)) (by decide);have EN:2^(t+1)=2*2^t:=by rw[Nat.pow_succ,Nat.mul_comm]
        have lH:IntKind.i64.wrap ((x:Int)*2)=((2*x:Nat):Int):=by rw[show (x:Int)*2=((2*x:Nat):Int) by omega];exact iw_ _ (by omega)
        have af:IntKind.i64.wrap (((2*x:Nat):Int)+1)=((2*x+1:Nat):Int):=by rw[<- Int.natCast_succ];exact iw_ _ (by omega)
        have iX:IntKind.i64.wrap ((t:Int)+1)=((t+1:Nat):Int):=by rw[<- Int.natCast_succ];exact iw_ _ (by omega)
        have e1:F j*2^(t+1)=2*(F j*2^t):=by rw[EN];exact Nat.mul_left_comm ..
        have bK:=HX.o.2;cases hbv:bl.getD (j+t) false with
        | true =>
         have ff:Hid (2*x+1<2^(t+1)/\F (j+(t+1))=F j*2^(t+1)+(2*x+1)):=by
          refine⟨by omega,?_⟩;rw[hbv] at GT;rw[<- Nat.add_assoc,GT,bK,e1]
          show _+1=_
          omega
         have fR:2*x+1<268435456:=by have:=ff.o.1;omega
         rw[hbv] at cb;clear GT hbv HX e1 bK iV aj EN;go_wp2_with fail;refine⟨⟨t+1,2*x+1,by omega,by go_num,by go_num,fR,ff,HB⟩,by simp[intOf];omega⟩
        | false =>
         have ff:Hid (2*x<2^(t+1)/\F (j+(t+1))=F j*2^(t+1)+2*x):=by
          refine⟨by omega,?_⟩;rw[hbv] at GT;rw[<- Nat.add_assoc,GT,bK,e1]
          show _+0=_
          omega
         have fR:2*x<268435456:=by have:=ff.o.1;omega
         rw[hbv] at cb;clear GT hbv HX e1 bK iV aj EN af;go_wp2_with fail;refine⟨⟨t+1,2*x,by omega,by go_num,by go_num,fR,ff,HB⟩,by simp[intOf];omega⟩
       ·obtain rfl:t=g:=by omega
        have Eg:¬ (t:Int)<t:=by omega
        have IF:=HF.o.sm j hj;have di:F j<2^K10:=Nat.lt_of_lt_of_le IF (Nat.pow_le_pow_right (by decide) (by rw[k10];omega));obtain⟨G,hG⟩:∃ G,2^t=G:=⟨_,rfl⟩;have OW:G<=268435456:=by rw[<- hG];exact Nat.le_trans (Nat.pow_le_pow_right (by decide) E') (by decide)
        have OV:(2:Int)^t=(G:Nat):=by rw[<- hG,Int.natCast_pow];rfl
        have bk:IntKind.i64.wrap (G:Int)=(G:Nat):=iw_ _ (by omega);have hM:=fun W hW=>Cf.o (F j) t W di E' hW
        have hA:=fun W hW=>jO.o (F j) x t W di E' HX.o.1 hW
        have aM:=HX.o.2;rw[hG] at hM hA aM;have AZ:=hd_ (HI.o.bel.trans (HB.o.mono HI.o.bel.size));have HM:=hd_ hM;have HA:=hd_ hA;have jP:=hd_ aM;have D7:=hd_ (fun W hW=>Gh.o G W (by omega) hW);have D6:=hd_ (fun W hW=>Gh.o x W (by omega) hW);clear IF di hG hM hA aM HX;go_wp2_with fail;refine cm_ (D7.o _ AZ.o) ?_;rintro e w4 ⟨rfl,hb⟩;have B4:=bt_ AZ hb;have C4:=bt_ HB hb;clear hb;go_wp2_with fail;refine cm_ (HM.o _ B4.o) ?_;rintro e w5 ⟨rfl,hb⟩;have B5:=bt_ B4 hb;have C5:=bt_ C4 hb;clear hb B4 C4;go_wp2_with fail;refine cm_ (D6.o _ B5.o) ?_;rintro e w6 ⟨rfl,hb⟩;have B6:=bt_ B5 hb;have C6:=bt_ C5 hb;clear hb B5 C5;go_wp2_with fail;refine cm_ (HA.o _ B6.o) ?_;rintro e w7 ⟨rfl,hb⟩;have B7:=bt_ B6 hb;have C7:=bt_ C6 hb;clear hb B6 C6 D7 D6 HM HA HB AZ gq;have Me:=hd_ (Zvz (d:=c) (HI.o.rd.below C7.o nr_) t (by rw[Zan,List.length_drop,HF.o.len];have:=HI.o.cap;omega));have eA:=hd_ HI.o.cap;rw[<- jP.o];clear HI jP;go_wp2_with fail;refine⟨⟨j+t,_,c-t,jw.o,rfl,by rw[show n-(j+t)=m-t by omega],⟨?_,by have:=eA.o;omega,B7.o⟩⟩,by show m-t<m;omega⟩;have:=Me.o
        unfold Zb6 at this;rw[<- List.map_drop,List.drop_drop] at this;exact this
     ·obtain rfl:j=n:=by omega
      obtain rfl:m=0:=by omega
      go_wp2_with fail;go_ret;exact⟨by rw[Mn.o];rfl,HI.o.bel⟩
end Go.Proofs.YtbielfplgbammaaGreatDoor

namespace Go.Proofs.YtbielfplgbammaaGreatDoor.LN
theorem Zj1(P:Int):∀ l k:List Int,dotI l k=dotI (l.map fun x=>x%P) k+P*dotI (l.map fun x=>x/P) k
 | [],_=>by simp[dotI]
 | _::_,[]=>by simp[dotI]
 | x::l,y::k=>by
  have ih:=Zj1 P l k;simp only[List.map_cons,dotI];rw[ih];have hx:=Int.emod_add_mul_ediv x P;generalize x%P=r at *;generalize x/P=q at *;subst hx
  grind
def Ze1 (a q:Int) (L:List Int):List Int:=L.map fun l=>(2*q*l+a)/(2*a)
theorem Ze0(a q:Int)(L:List Int):(Ze1 a q L).length=L.length:=by simp[Ze1]
def Qh1 (a q:Int) (L:List Int):Nat:=Zdz (comb a (Ze1 a q L) q L)
def Qdi (a:Int) (L Q:List Int) (K S:Nat):Bool:=decide (0<a)&&Q.all fun q=>decide (Qh1 a q L*K+q.natAbs*S<a.natAbs)
def Qho (a:Int) (L Q:List Int) (V:List (List Int)) (P:Int):Bool :=
 decide (1<P)&&decide (V.length=L.length) &&
 (List.range L.length).all fun i=>decide ((Zey L.length (V.getD i []) (Q.map fun q=>Ze1 a q L)).map (fun x=>x%P)=Ze6 L.length i 1)
theorem Zr1(P:Int):∀ u k:List Int,dotI u (k.map fun x=>P*x)=P*dotI u k
 | [],_=>by simp[dotI]
 | _::_,[]=>by simp[dotI]
 | a::u,b::k=>by
  simp only[List.map_cons,dotI];rw[Zr1 P u k]
  grind
theorem Qd2{P:Int}{m:Nat}{U V:List (List Int)}(hU:∀ u∈U,u.length=m)(hI:∀ i,i<m->(Zey m (V.getD i []) U).map (fun x=>x%P)=Ze6 m i 1)(k:List Int)(hk:k.length=m)(h0:∀ u∈U,dotI u k=0):
  ∀ x∈k,∃ y,x=P*y:=by
 intro x hx;obtain⟨i,hi,rfl⟩:=List.mem_iff_getElem.1 hx;have h1:=hI i (by omega);have h2:=Zfl m k (V.getD i []) U hU h0;rw[Zj1 P,h1,Ze6,List.range_eq_range',Zia 1 _ i 0 k,if_pos (by omega)] at h2;rw[Nat.sub_zero,List.getD_eq_getElem?_getD,List.getElem?_eq_getElem hi,Option.getD_some,Int.one_mul] at h2;generalize k[i]=y at *;generalize dotI ((Zey m (V.getD i []) U).map fun x=>x/P) k=q at *;exact⟨-q,by rw[Int.mul_neg];omega⟩
theorem Qad{P:Int}(hP:1<P){m:Nat}{U V:List (List Int)}(hU:∀ u∈U,u.length=m)(hI:∀ i,i<m->(Zey m (V.getD i []) U).map (fun x=>x%P)=Ze6 m i 1):
  ∀ (n:Nat) (k:List Int),(∀ x∈k,x.natAbs<=n)->k.length=m->(∀ u∈U,dotI u k=0)->∀ x∈k,x=0:=by
 intro n
 induction n using Nat.strongRecOn with
 | ind n ih =>
  intro k hn hk h0
  by_cases hz:n=0
  ·subst hz;intro x hx;have:=hn x hx
   omega
  have hd:=Qd2 hU hI k hk h0;have e:k=(k.map fun x=>x/P).map fun x=>P*x:=by
   rw[List.map_map];refine List.ext_getElem (by simp) fun i h1 h2=>?_
   obtain⟨y,hy⟩:=hd k[i] (List.getElem_mem h1);rw[List.getElem_map,Function.comp_apply,hy,Int.mul_ediv_cancel_left _ (by omega)]
  have h2:∀ u∈U,dotI u (k.map fun x=>x/P)=0:=fun u hu=>by
   have h:=h0 u hu;rw[e,Zr1] at h;rcases Int.mul_eq_zero.1 h with h|h
   ·omega
   ·exact h
  have h3:∀ x∈k.map (fun x=>x/P),x.natAbs<=n/2:=fun x hx=>by
   obtain⟨z,fE,rfl⟩:=List.mem_map.1 hx;obtain⟨y,hy⟩:=hd z fE;have h4:=hn z fE;rw[hy,Int.mul_ediv_cancel_left _ (by omega)];rw[hy,Int.natAbs_mul] at h4;have h5:2*y.natAbs<=P.natAbs*y.natAbs:=Nat.mul_le_mul_right _ (by omega);omega
  have h4:=ih (n/2) (by omega) _ h3 (by rw[List.length_map];exact hk) h2;intro x hx;obtain⟨y,hy⟩:=hd x hx;have h5:=h4 (x/P) (List.mem_map_of_mem hx);rw[hy,Int.mul_ediv_cancel_left _ (by omega)] at h5;rw[hy,h5,Int.mul_zero]
theorem Zqk{a:Int}{L Q:List Int}{V:List (List Int)}{P:Int}{K S:Nat}(hn:Qdi a L Q K S=true)(hi:Qho a L Q V P=true)(k:List Int)(hk:k.length=L.length)(hK:∀ x∈k,x.natAbs<=K)(hS:(dotI L k).natAbs<S):
  ∀ x∈k,x=0:=by
 unfold Qdi at hn;unfold Qho at hi;simp only[Bool.and_eq_true,decide_eq_true_eq,List.all_eq_true,List.mem_range] at hn hi;obtain⟨ha,hQ⟩:=hn;obtain⟨⟨hP,hV⟩,hI⟩:=hi;refine Qad hP (m:=L.length) (U:=Q.map fun q=>Ze1 a q L) (V:=V) (fun u hu=>?_) hI (Zdz k) k (fun x hx=>?_) hk fun u hu=>?_
 ·obtain⟨q,_,rfl⟩:=List.mem_map.1 hu;exact Ze0 a q L
 ·clear hS hK hk hI hV;unfold Zdz
  induction k with
  | nil=>cases hx
  | cons y l ih =>
   rw[List.map_cons,List.sum_cons];rcases List.mem_cons.1 hx with rfl|hx
   ·omega
   ·have:=ih hx;omega
 ·obtain⟨q,hq,rfl⟩:=List.mem_map.1 hu;have h1:=hQ q hq;have e:=Zet a q (Ze1 a q L) L k (Ze0 a q L);have b:=Zp1 K (comb a (Ze1 a q L) q L) k hK;unfold Qh1 at h1;generalize dotI (Ze1 a q L) k=f at *;generalize dotI L k=T at *;generalize Zdz (comb a (Ze1 a q L) q L)*K=A at *;rw[e] at b;have h3:(a*f).natAbs<=(a*f-q*T).natAbs+(q*T).natAbs:=by omega
  rw[Int.natAbs_mul,Int.natAbs_mul q T] at h3;have h5:q.natAbs*T.natAbs<=q.natAbs*S:=Nat.mul_le_mul_left _ (by omega);have h6:a.natAbs*f.natAbs<a.natAbs*1:=by omega
  have h7:f.natAbs<1:=Nat.lt_of_mul_lt_mul_left h6;omega
def Qej:List Nat:=[2,3,5,7,11,13,17,19,23,29,31,37,41,43,47,53,59,61,67,71,73,79,83,89,97]
def certL25:List Int:=Qej.map fun p=>if p=2 then 2^1024 else (((lg p p.log2 1024 1120).getD 0:Nat):Int)
def Zxw:List Int:=[-0x390cc4547b4cd34f887aebaadaaef6c9e2c25ec48d8f23b26f2a85d828ff28e8bf9ca1f7cfab0d284288c4b575780f820db978a62a9677ad80c583c592139,-0x260814ef7f5ac50a6006d98cfd70b43cacbe2b44c5a6acba00c9e36e133dfaec54ded4a6dbf2b1ee3d9f0170e9040519515ec50467e78cea24b2a987b6ebe,0xc1fe29faf3a552cd8de28a12e2da45a09a6f6ddd51c9fdf123231365c26467b7f0adb74fd1629cde5109fd2ce82ac31cf6a7159b88cbc009f06beb2efe7f1,0xc4d95d3690e9b65f02a176c883e8ec48cac8f51c6e6ac88155fbb552a8d107e0735dfadeafbd00dc15d7affcd74d1aedcc8b5819242d9f5374d744f37864b,0x2fbe3f25a3a7de9b5b481954d1f6339b2cd20553ab9d3ebec152b19718dccca849fa91bd57f1ef5cf6b3fd1de44fed74095a607713b59e5dab526a5bf2d1a,0xb1d4a89456513f0be0db174271d748684707ab7c465b9b152f9cfd46885d014b0b6313fdb7fb0ac0f8c0cbb84fa1114a2fc1ad81d7b46dc68888c7e484443,0xd4fb67b9eee711061c2f484eaeb6714b80931bf0be34de2758afdcfc8ab8d81f286fc368a34abbdee16567d53c8e00633cd4e3c89dc0919dbd4e6776a43bb,0xc899fb23e590a24b56a2adcd8da665a66ae2ec7e27986cc365cb27f6d6036be68c300e821eb425ea7f34efe116edeeffcaca2af99a0269f5b4261db47c314,-0x11d12dd471b033d8f64d3dd96ce360413127b1e913f3ae0a69f58fd7c784be2b7f4730a1aa0e86d39e38d5da6e24bfecc0540ab55bd835eba83548458d713,0xb926771e4e6fa1b1d854b5141a33d1ea69f18e9493e4bd4e7fc79ec59c41a85d36321c75af04f2583ea8a5d6ed566b5e9fa774026a91431b6a7df578e7459,-0x3c28cc5f354ba5a9fc8d241587fa21af31c3e6e94de0dd06347765459067893f4625b14ba63b900137e634223d3e51fc18e23feb9d937a72459c82f489561,-0xd89ae46dcc2d34099da88c0eeebe45a7fd8e4a5b978d5a347365896f552ec37edac4d764c4c88fe731af3bde3060926f6c408fa08ce000932d017724e19ee,-0x8a91da38a2dcab2db4bf4a851cf4bbad9dd11812fb953cccc63d0e4b2da4b049c2e28f859aff65c2f55d66641eec3465bf2cc38578db652cb80d1be86824c,0x895aa15dcf5659cff1497ef77c5517ab5bc635dc394b344b270487efb0c24dd81130969cbd26c4b2570453e614b36072827d534508273926630d8792f1505,0xec0ed674cca733ecec2ec718589c4165668c921ed200cb18f949421f53adfeaf33ee49b77683fd220fda76c247b919730b89f5c86cc2ae2e7467e6288190d,0x1ad4fa358f8a2b0001052337ff5f965738e9ef08c0ab36887e87053178564d3d4733548ea08b2398fa1c8ef38e9b07acf14183670a7557085e371538399213,-0xcf563fd1ab64de44118f0ef591830a98b4375aefbd7643b50b3a2c7dad2ddda31ea6a961f9ff6856f9af1536f3807caa73d0d8bccd1b1748307caca0b514,0x5076fb700c91eb0ad7590020d977e1805d604885b67160daae909a62406d3f401f66fe04cdb504d8309c6f2062ee41b2c29c45d2c01b4a6959315c698416e,-0xe7e496b0d5dae89fd6671905c3b39792af4f23aa9c33ab499c18e57447823ce03c684e8e0d3686afff015d66b6d57f8e91b97946b1f2fb236c8d62708a18a,-0x1797837a78ad5a7cb425ecd55e66c7f45320c2112aa185855f9ac4fbdd0f1a3f868873233f2a91c500731f84bf864689b9ca4ffc44787f78ed85c25d65bafe,0x1f12b1884e6ed34a5d58fcbbd9b64bb0e3620c645f1107b850710f74df8470506f39df5b2c079d54de688969e9b3be651cc671df4be8b0402deeed04d7136f,0x38773a3f3a38ff2f461cc1a498212e2699f4b44c91c4fc8fe76a273f7433e99ad868606c13df7bb8fbc1a0e307aa2305e1edc5fc67267c33693811a24a115a,-0x468f56cd9688ad4444754dc5516780d8a728601272b981c9e540ae5c7eccc37be9aaea74cc4f68a295024dd153707784d1a0f06af7b3318b43396873b153b9,0x29803f6a11e403f7ab8ab7f301e524fd966b213312929531e43177e8e94c4228b3ff35f744d7a0381b47d50f48de84c56fabfe6825e7c594421d4081a2f909,-0x3ba482035175b55cdd54937fbed1357892e1679104490919122bafa83262d982e03a473fabb598916f8baa291f85413607e809cc262654bd47d7d78594adb]
def Qef:List (List Int):=[[98,118,202,124,83,146,107,201,172,64,12,55,105,153,239,226,195,7,28,1,187,165,30,221,20],[97,27,31,158,30,77,244,51,44,105,139,212,178,232,112,144,112,50,139,194,131,126,250,243,199],[145,223,213,170,95,13,240,130,153,118,135,223,243,186,171,134,207,140,198,195,116,22,35,91,65],[127,43,6,14,138,151,250,70,62,80,184,44,115,51,176,244,145,131,206,236,45,69,179,200,133],[215,29,202,95,72,74,48,4,10,16,59,3,80,6,27,146,155,64,144,191,207,28,47,186,115],[1,23,188,40,44,144,148,45,179,1,2,131,81,130,190,174,102,201,98,127,88,72,69,149,96],[21,40,35,113,140,63,120,23,173,12,30,112,115,247,188,77,109,86,237,6,190,149,14,217,137],[165,242,4,13,24,68,242,68,11,194,105,217,200,25,217,157,134,179,219,36,80,241,64,196,176],[206,4,124,119,72,189,189,146,49,121,239,155,85,23,138,58,180,221,118,48,106,186,171,238,86],[210,99,247,60,139,154,200,40,223,202,137,227,11,116,74,91,113,69,222,174,223,137,100,238,243],[137,154,125,2,209,203,20,147,218,42,113,181,57,132,187,233,7,180,4,13,134,94,179,172,127],[179,210,49,18,55,213,151,96,5,60,141,57,148,95,99,145,82,178,219,173,202,14,84,100,228],[102,62,217,129,14,127,200,224,35,146,125,220,123,9,18,106,211,148,211,96,123,238,196,223,230],[107,242,170,28,59,5,149,152,27,153,45,77,216,213,205,218,113,101,58,81,174,221,44,184,57],[108,175,78,124,22,49,53,21,88,184,52,93,49,179,193,43,94,166,25,71,133,248,120,207,180],[190,12,33,105,31,211,119,39,220,34,3,27,122,55,99,131,239,148,215,72,248,155,198,222,150],[144,6,56,78,4,2,126,114,216,174,212,176,32,191,21,45,218,115,143,120,153,136,150,24,232],[177,196,131,171,223,9,122,185,198,226,118,98,221,101,109,186,72,130,15,250,167,241,109,149,105],[5,109,58,172,46,17,108,71,152,136,247,173,16,175,59,71,120,96,238,26,93,192,136,39,81],[186,19,103,188,193,244,223,99,12,51,155,33,75,7,116,75,27,25,162,116,163,194,41,249,169],[16,165,61,90,34,101,66,39,9,179,6,2,90,243,140,110,154,165,206,43,233,68,70,8,11],[234,230,151,18,15,70,18,94,170,185,103,207,140,194,73,45,240,94,238,202,45,181,231,74,100],[93,157,117,129,100,102,151,37,142,24,195,236,119,121,156,62,96,20,140,202,137,110,136,203,133],[34,56,244,228,180,109,49,144,4,202,26,66,171,139,244,245,65,98,96,38,169,12,38,158,59],[93,79,212,48,179,15,215,149,126,233,223,17,202,226,95,109,96,28,47,201,229,125,122,118,247]]
theorem certL25_head:certL25.head?=some (2^1024):=by decide +kernel
theorem certL25_len:certL25.length=25:=by unfold certL25;rw[List.length_map];rfl
theorem Zwh:Qdi (2^1024) certL25 Zxw (2^17) (2^521)=true:=by decide +kernel
theorem Qae:Qho (2^1024) certL25 Zxw Qef 251=true:=by decide +kernel
theorem cert25_zero(k:List Int)(hk:k.length=certL25.length)(hK:∀ x∈k,x.natAbs<=2^17)(hS:(dotI certL25 k).natAbs<2^521):∀ x∈k,x=0:=Zqk Zwh Qae k hk hK hS
end Go.Proofs.YtbielfplgbammaaGreatDoor.LN

namespace Go.Proofs.YtbielfplgbammaaGreatDoor
open Go.RowKit
theorem LN.ends_decide_of{pr:List Int}{f:Int->Nat}{K S:Nat}(hz:∀ k:List Int,k.length=pr.length->(∀ x∈k,x.natAbs<=K)->(LN.dotI (pr.map fun p=>(f p:Int)) k).natAbs<S->∀ x∈k,x=0)(hp:pr.Nodup)(l:List (Int×Int))(hl:l.length*K<=S)(gh:l≠[])
  (hm:∀ x∈l,x.1∈pr/\x.2≠0/\x.2.natAbs<=K) (hd:(l.map Prod.fst).Nodup):LN.hiS f (LN.negT l)<=LN.loS f l\/LN.hiS f l<=LN.loS f (LN.negT l):=by
 have h1:=LN.hiS_le f K l fun x hx=>(hm x hx).2.2
 have h2:=LN.hiS_le f K (LN.negT l) (by
  intro x hx;obtain⟨y,hy,rfl⟩:=List.mem_map.1 hx;have:=(hm y hy).2.2
  show (-y.2).natAbs<=K
  omega)
 have e:(LN.negT l).length=l.length:=by simp[LN.negT]
 rw[e] at h2;have h3:=LN.sumT_eq f l
 by_cases hT:(LN.sumT f l).natAbs<S
 ·exfalso;rw[<- LN.dotI_coef f pr hp l fun x hx=>(hm x hx).1] at hT;have h4:=hz (pr.map fun p=>LN.coefP p l) (by simp) (by
   intro x hx;obtain⟨p,_,rfl⟩:=List.mem_map.1 hx;exact LN.coefP_le K l hd (fun y hy=>(hm y hy).2.2) p) hT
  match l,gh with
  | x::r,_ =>
   have h5:=h4 _ (List.mem_map.2 ⟨x.1,(hm x List.mem_cons_self).1,rfl⟩);rw[LN.coefP_mem _ hd x List.mem_cons_self] at h5;exact(hm x List.mem_cons_self).2.1 h5
 ·omega
theorem Zqf:∀ x∈LN.certL25,(0:Int)<=x:=by decide +kernel
theorem Ztn:Zba.map (fun p=>LN.lg p p.log2 1024 1120)=LN.certL25.tail.map fun x=>some x.toNat:=by decide +kernel
theorem Zue:Zir.map (fun p=>((lf 1024 p:Nat):Int))=LN.certL25:=by
 have h:=Ztn;have h0:=LN.certL25_head;have hp:=Zqf;obtain⟨c0,ct,e⟩:∃ c0 ct,LN.certL25=c0::ct:=⟨_,_,rfl⟩;rw[e] at h h0 hp ⊢;rw[Zsf,List.map_cons];simp only[List.head?_cons,Option.some.injEq] at h0;rw[Qb9,h0];congr 1;rw[List.tail_cons] at h;rw[List.map_map];have Js:∀ x∈ct,(0:Int)<=x:=fun x hx=>hp x (List.mem_cons_of_mem _ hx)
 clear hp h0 e;have Gg:∀ (l:List Nat) (ct:List Int),(∀ p∈l,p∈Zba)->(∀ x∈ct,(0:Int)<=x)->l.map (fun p=>LN.lg p p.log2 1024 1120)=ct.map (fun x=>some x.toNat)->l.map ((fun p=>((lf 1024 p:Nat):Int)) ∘ fun p=>((p:Nat):Int))=ct:=by
  intro l
  induction l with
  | nil =>
   intro ct _ _ h;cases ct with
   | nil=>rfl
   | cons x r=>simp at h
  | cons p l ih =>
   intro ct hl hc h;cases ct with
   | nil=>simp at h
   | cons x r =>
    simp only[List.map_cons,List.cons.injEq] at h;rw[List.map_cons,ih r (fun q hq=>hl q (List.mem_cons_of_mem _ hq)) (fun y hy=>hc y (List.mem_cons_of_mem _ hy)) h.2];congr 1;have:=Qb6 (hl p (List.mem_cons_self ..)) (by decide) h.1
    have hx:=hc x (List.mem_cons_self ..)
    show ((lgN p 1024:Nat):Int)=x
    rw[this];omega
 exact Gg Zba ct (fun _ h=>h) Js h
def Ke:Nat:=2^17
theorem Zlq{tl:List (Int×Int)}(h1:∀ x∈tl,x.1∈Zir)(h0:∀ x∈tl,x.2≠0)(hd:(tl.map Prod.fst).Nodup)(hk:∀ x∈tl,x.2.natAbs<=Ke)(hl:tl.length<=100)(gh:tl≠[]):Dec tl:=by
 have hS:=@Zjv tl.length 17 521 hl (by decide);have hz:∀ k:List Int,k.length=Zir.length->(∀ x∈k,x.natAbs<=Ke)->(LN.dotI (Zir.map fun p=>((lf 1024 p:Nat):Int)) k).natAbs<2^521->∀ x∈k,x=0:=by
  intro k hk hK hT;rw[Zue] at hT;exact LN.cert25_zero k (by rw[hk,LN.certL25_len];rfl) hK hT
 have:=LN.ends_decide_of hz (by decide) tl hS gh (fun x hx=>⟨h1 x hx,h0 x hx,hk x hx⟩) hd
 unfold Dec;rw[LN.eLo_eq,LN.eHi_eq];omega
theorem Zl6.all{ps:List Int}{l:List Rat}(h1:∀ p∈ps,p∈Zir)(h2:ps.Nodup)(hk:∀ x∈tlQ ps l,x.2.natAbs<=Ke):Zl6 ps l :=
 ⟨h1,h2,fun x hx=>Nat.le_trans (hk x hx) (by decide),fun hn gh=>Zlq (fun _ hx=>h1 _ (Zm hx).1) (Zmg h1 h2).nz (Zmg h1 h2).nd hk (Zjb hn) gh⟩
end Go.Proofs.YtbielfplgbammaaGreatDoor

namespace Go.Proofs.YtbielfplgbammaaGreatDoor.LN
def KC:Nat:=2^10
def SC:Nat:=2^980
def certPc0:List Int:=[2,3,5,7]
def certLc0:List Int:=[certL.getD 0 0,certL.getD 1 0,certL.getD 2 0,certL.getD 3 0]
def Qei:List (List Int):=[[355384823813,563271619069,825178006908,997691334356],[260741019467,413264738255,605421898590,731992584383],[501191157123,794369189733,1163729828633,1407021461841],[5952785575414,9434941911865,13821940070394,16711581885092]]
def Qee:List (List Int):=[[-56549,-23682,29982,1889],[24686,11530,1974,-2145],[-6414,16227,-5533,138],[11511,-11495,-7218,424]]
theorem certC0_ok:certOk (2^1024) certLc0 Qei Qee 1 KC SC=true:=by decide +kernel
def certPc1:List Int:=[2,3,5,13]
def certLc1:List Int:=[certL.getD 0 0,certL.getD 1 0,certL.getD 2 0,certL.getD 5 0]
def Qeh:List (List Int):=[[3455300059093,5476521022402,8022958283474,12786129576763],[-3171618552594,-5026896472453,-7364270223534,-11736383262812],[-1792685898840,-2841339925233,-4162487753825,-6633726102219],[68036508400,107835314494,157975880332,251764997967]]
def Qed:List (List Int):=[[-61927,-63338,-6486,21533],[10762,10649,2294,10304],[3330,11145,-13511,-5577],[10036,5562,9248,-6733]]
theorem certC1_ok:certOk (2^1024) certLc1 Qeh Qed 1 KC SC=true:=by decide +kernel
def certPc2:List Int:=[2,3,7,11]
def certLc2:List Int:=[certL.getD 0 0,certL.getD 1 0,certL.getD 3 0,certL.getD 4 0]
def Qeg:List (List Int):=[[-1245509065909,-1974085163774,-3496586006647,-4308753443905],[-1448276951703,-2295464659108,-4065827428866,-5010215079265],[-1801554140183,-2855395755209,-5057601882796,-6232353355236],[-5568883772664,-8826471950547,-15633833269555,-19265172603670]]
def Qec:List (List Int):=[[47907,-64889,7585,3707],[-21989,3883,6940,1663],[-8309,2477,-13310,5520],[2969,14968,5429,-6313]]
theorem certC2_ok:certOk (2^1024) certLc2 Qeg Qec 1 KC SC=true:=by decide +kernel
end Go.Proofs.YtbielfplgbammaaGreatDoor.LN

namespace Go.Proofs.YtbielfplgbammaaGreatDoor
open Go.RowKit
theorem Sml.kb{N M:Nat}{ps:List Int}{l:List Rat}(hM:0<M)(h:Sml N M l):∀ x∈tlQ ps l,x.2.natAbs<=N:=by
 intro x hx;obtain⟨_,q,hq,_,he⟩:=Zm hx;have e:x.2=LN.ex (Qn l) q:=he;obtain⟨m,hm⟩:=LN.tden_min (fun q hq=>(h q hq).1);have h3:=(h q hq).2;rw[hm,Nat.mul_comm,LN.ex_mul (LN.tden_dvd hq),Int.natAbs_mul,Int.natAbs_natCast] at h3;have ER:0<m:=by
  rcases Nat.eq_zero_or_pos m with h0|h0
  ·rw[h0,Nat.mul_zero] at hm;omega
  ·exact h0
 rw[e];have h4:1*(LN.ex (Qn l) q).natAbs<=m*(LN.ex (Qn l) q).natAbs:=Nat.mul_le_mul_right _ ER;omega
theorem Sml.den{N:Nat}{l:List Rat}(h:Sml N 12 l):Qn l<=12:=Nat.le_of_dvd (by decide) (LN.tden_min (fun q hq=>(h q hq).1))
theorem Qff{ps:List Int}{l:List Rat}(hl:l.length=ps.length)(h:∃ q∈l,q≠0):tlQ ps l≠[]:=by
 obtain⟨q,hq,h0⟩:=h;obtain⟨i,hi,rfl⟩:=List.mem_iff_getElem.1 hq;intro e;have hm:(ps[i]'(by omega),l[i].num*((Qn l/l[i].den:Nat):Int))∈tlQ ps l:=by
  unfold tlQ Qt;refine List.mem_filterMap.2 ⟨(ps[i]'(by omega),l[i]),?_,?_⟩
  ·exact List.mem_iff_getElem.2 ⟨i,by simp;omega,by simp⟩
  ·rw[if_neg];intro hz;exact h0 (Rat.num_eq_zero.1 hz)
 rw[e] at hm;cases hm
/-! The numbers of the law. -/
theorem Zuc:LN.certPc0.map (fun p=>((lf 1024 p:Nat):Int))=LN.certLc0:=by
 unfold LN.certLc0;rw[<- Zgq];rfl
theorem Zub:LN.certPc1.map (fun p=>((lf 1024 p:Nat):Int))=LN.certLc1:=by
 unfold LN.certLc1;rw[<- Zgq];rfl
theorem Zua:LN.certPc2.map (fun p=>((lf 1024 p:Nat):Int))=LN.certLc2:=by
 unfold LN.certLc2;rw[<- Zgq];rfl
theorem Zkm{pr:List Int}{a dd:Int}{U V:List (List Int)}{K S:Nat}(hb:LN.certOk a (pr.map fun p=>((lf 1024 p:Nat):Int)) U V dd K S=true)(hd:pr.Nodup){ty:List (Int×Int)}(my:∀ x∈ty,x.1∈pr)(ny:(ty.map Prod.fst).Nodup)(h0:∀ x∈ty,x.2≠0)(gh:ty≠[])(hky:∀ x∈ty,x.2.natAbs<=K):S<=(LN.sumT (lf 1024) ty).natAbs:=by
 refine Nat.le_of_not_lt fun hc=>?_
 rw[<- LN.dotI_coef (lf 1024) pr hd ty my] at hc;have hz:=LN.cert_zero hb (pr.map fun p=>LN.coefP p ty) (by simp) (by
  intro x hx;obtain⟨p,_,rfl⟩:=List.mem_map.1 hx;exact LN.coefP_le _ ty ny hky p) hc
 match ty,gh with
 | x::l,_ =>
  have h5:=hz _ (List.mem_map.2 ⟨x.1,my x List.mem_cons_self,rfl⟩);rw[LN.coefP_mem _ ny x List.mem_cons_self] at h5;exact h0 x List.mem_cons_self h5
theorem Zm2:∀ k,k<10->(∀ p∈Kn k,p∈LN.certPc0)\/(∀ p∈Kn k,p∈LN.certPc1)\/(∀ p∈Kn k,p∈LN.certPc2):=by decide +kernel
theorem Zpa{k:Nat}(hk:k<10){ty:List (Int×Int)}(my:∀ x∈ty,x.1∈Kn k)(ny:(ty.map Prod.fst).Nodup)(h0:∀ x∈ty,x.2≠0)(gh:ty≠[])(hky:∀ x∈ty,x.2.natAbs<=LN.KC):LN.SC<=(LN.sumT (lf 1024) ty).natAbs:=by
 rcases Zm2 k hk with h|h|h
 ·exact Zkm (by rw[Zuc];exact LN.certC0_ok) (by decide) (fun x hx=>h _ (my x hx)) ny h0 gh hky
 ·exact Zkm (by rw[Zub];exact LN.certC1_ok) (by decide) (fun x hx=>h _ (my x hx)) ny h0 gh hky
 ·exact Zkm (by rw[Zua];exact LN.certC2_ok) (by decide) (fun x hx=>h _ (my x hx)) ny h0 gh hky
def Zun (w:World) (B:Nat) (a:OA_) (c:Nat) (l:List Int):Prop:=w.ownsRow B 3 1 (.slice a l.length c) l.length (Vd l)
theorem Zun.rd{w:World}{B c:Nat}{a:OA_}{l:List Int}(h:Zun w B a c l):Rd w a (Vd l):=Zv7 h
theorem Zun.below{w w':World}{B c:Nat}{a:OA_}{l:List Int}(h:Zun w B a c l){D:Nat}(hb:Below D w w')(hD:w.heap.size<=D):Zun w' B a c l:=Ky h hb hD
theorem Zun.nil(w:World)(B:Nat):Zun w B none 0 []:=World.ownsRow_nil w B _ 1
def zl (ps xs:List Int):List (Int×Int):=ps.zip xs
theorem Qgm(x:Int):LN.ex 1 (x:Rat)=x:=by
 unfold LN.ex;rw[Rat.num_intCast,Rat.den_intCast];simp
theorem Qeu{p:Int}(h:p∈Zir):2<=p/\p<=97:=by
 have Gg:∀ q∈Zir,2<=q/\q<=97:=by decide
 exact Gg p h
structure Qcm (ps:List Int):Prop where
 p0:Qx ps=0
 all:∀ p∈ps,p∈Zir
 nd:ps.Nodup
 n0:0<ps.length
 n6:ps.length<=6
theorem Qcm.pr{ps:List Int}(P:Qcm ps):∀ p∈ps,2<=p/\p<=97:=fun p hp=>Qeu (P.all p hp)
theorem Qcm.pos{ps:List Int}(P:Qcm ps):∀ p∈ps,0<p:=fun p hp=>by have:=P.pr p hp;omega
theorem Qcm.i64{ps:List Int}(P:Qcm ps):Zi6 ps:=fun p hp=>by have:=P.pr p hp;omega
def rq (x:List Int):List Rat:=x.map fun x:Int=>(x:Rat)
def Qg9 (x y:List Int):List Int:=List.zipWith (fun a b=>a-b) x y
def Bd (N:Nat) (x:List Int):Prop:=∀ a∈x,a.natAbs<=N
theorem Bd.le{N K:Nat}{x:List Int}(h:Bd N x)(hK:N<=K):Bd K x:=fun a ha=>Nat.le_trans (h a ha) hK
theorem Bd.sml{N:Nat}{x:List Int}(h:Bd N x):Sml N 1 (rq x):=fun q hq=>by
 obtain⟨a,ha,rfl⟩:=List.mem_map.1 hq;refine⟨by rw[Rat.den_intCast];exact Nat.dvd_refl 1,?_⟩;rw[Qgm];exact h a ha
theorem Bd.sm{N D:Nat}{x:List Int}(h:Bd N x)(hD:N<10^D)(h1:1<10^D):∀ q∈rq x,Sm D q:=fun q hq=>by
 obtain⟨a,ha,rfl⟩:=List.mem_map.1 hq;exact⟨by rw[Rat.num_intCast];exact Nat.lt_of_le_of_lt (h a ha) hD,by rw[Rat.den_intCast];exact h1⟩
theorem Bd.sub{N K:Nat}{x y:List Int}(h:Bd N x)(k:Bd K y):Bd (N+K) (Qg9 x y):=fun a ha=>by
 obtain⟨i,hi,rfl⟩:=List.mem_iff_getElem.1 ha;have dS:i<x.length/\i<y.length:=by simp[Qg9] at hi;omega
 simp only[Qg9,List.getElem_zipWith];have h1:=h _ (List.getElem_mem dS.1);have h2:=k _ (List.getElem_mem dS.2);omega
theorem Sml.goodA{N M:Nat}{ps:List Int}{l:List Rat}(hM:0<M)(h:Sml N M l)(hN:N<=Ke)(P:Qcm ps):Zl6 ps l :=
 Zl6.all P.all P.nd fun x hx=>Nat.le_trans (h.kb hM x hx) hN
theorem Bd.good{N:Nat}{x ps:List Int}(h:Bd N x)(hN:N<=Ke)(P:Qcm ps):Zl6 ps (rq x):=(h.sml).goodA (by decide) hN P
def Zlz (p n:Int):Int:=if Zup p then (if n<0\/1000<n then 3 else 0) else 25
theorem Qga{p:Int}(h:Zup p):2<=p/\p<=97:=by
 obtain⟨h0,h1,h2,-⟩:=h;omega
theorem Zii(w:World)(p n:Int)(p0 : -9223372036854775808<=p)(p1:p<=9223372036854775807)(n0 : -9223372036854775808<=n)(n1:n<=9223372036854775807):
  Kc Tryz.prog 185 #[.int .i64 p,.int .i64 n] w (.int .i64 (Zlz p n)):=by
 unfold Kc;have HP:=hd_ (Zf5 w p p0 p1)
 by_cases h:Zup p
 ·rw[decide_eq_true h] at HP;have Hv:Hid (Zlz p n=if n<0\/1000<n then 3 else 0):=by show _=_;unfold Zlz;rw[if_pos h]
  generalize Zlz p n=v at *;clear h
  by_cases h1:n<0
  ·have Ew:Hid (v=3):=by show _=_;rw[Hv.o,if_pos (.inl h1)]
   clear Hv;go_enter Tryz.func185,Tryz.ntmps185;go_wp2_with fail;refine cm_ HP.o ?_;rintro e w1 ⟨rfl,hb⟩;have B1:=hd_ hb;clear hb HP;go_wp2_with fail;go_ret;exact⟨by rw[Ew.o];rfl,B1.o⟩
  ·by_cases h2:1000<n
   ·have Ew:Hid (v=3):=by show _=_;rw[Hv.o,if_pos (.inr h2)]
    clear Hv;go_enter Tryz.func185,Tryz.ntmps185;go_wp2_with fail;refine cm_ HP.o ?_;rintro e w1 ⟨rfl,hb⟩;have B1:=hd_ hb;clear hb HP;go_wp2_with fail;go_ret;exact⟨by rw[Ew.o];rfl,B1.o⟩
   ·have Ew:Hid (v=0):=by show _=_;rw[Hv.o,if_neg (by omega)]
    clear Hv;go_enter Tryz.func185,Tryz.ntmps185;go_wp2_with fail;refine cm_ HP.o ?_;rintro e w1 ⟨rfl,hb⟩;have B1:=hd_ hb;clear hb HP;go_wp2_with fail;go_ret;exact⟨by rw[Ew.o];rfl,B1.o⟩
 ·rw[decide_eq_false h] at HP;have Ew:Hid (Zlz p n=25):=by show _=_;unfold Zlz;rw[if_neg h]
  generalize Zlz p n=v at *;clear h;go_enter Tryz.func185,Tryz.ntmps185;go_wp2_with fail;refine cm_ HP.o ?_;rintro e w1 ⟨rfl,hb⟩;have B1:=hd_ hb;clear hb HP;go_wp2_with fail;go_ret;exact⟨by rw[Ew.o];rfl,B1.o⟩
def Qe2 (p n:Int) (s:ByteArray):Value := .agg #[.int .i64 p,.int .i64 n,.string s]
theorem Zrb(w:World)(n:Nat)(hn:n<=4000)(L:Qa w):Kc Tryz.prog 203 #[.int .i64 n] w (.string (dec (2^n))):=by
 unfold Kc;have HP:=hd_ (Zyn w n hn L);generalize dec (2^n)=s at *;go_enter Tryz.func203,Tryz.ntmps203;go_wp2_with fail;refine cm_ HP.o ?_;rintro e w1 ⟨rfl,hb⟩;have B1:=hd_ hb;clear hb HP;go_wp2_with fail;go_ret;exact⟨rfl,B1.o⟩
theorem Zbo{w0 w:World}{B g:Nat}{a b c:Value}(x y z:Value)(k0:w.cell? ⟨g,0,none⟩=some a)(k1:w.cell? ⟨g,1,none⟩=some b)(k2:w.cell? ⟨g,2,none⟩=some c)(hB:B<=g)(hb:Below B w0 w):
  (((w.setCell ⟨g,0,none⟩ x).setCell ⟨g,1,none⟩ y).setCell ⟨g,2,none⟩ z).cell? ⟨g,0,none⟩=some x/\(((w.setCell ⟨g,0,none⟩ x).setCell ⟨g,1,none⟩ y).setCell ⟨g,2,none⟩ z).cell? ⟨g,1,none⟩=some y/\(((w.setCell ⟨g,0,none⟩ x).setCell ⟨g,1,none⟩ y).setCell ⟨g,2,none⟩ z).cell? ⟨g,2,none⟩=some z /\
  Below B w0 (((w.setCell ⟨g,0,none⟩ x).setCell ⟨g,1,none⟩ y).setCell ⟨g,2,none⟩ z):=by
 refine⟨?_,?_,?_,?_⟩
 ·rw[World.cell?_setCell_other _ _ _ _ (by simp),World.cell?_setCell_other _ _ _ _ (by simp),World.cell?_setCell_same _ _ _ k0]
 ·rw[World.cell?_setCell_other _ _ _ _ (by simp),World.cell?_setCell_same _ _ _ (by rw[World.cell?_setCell_other _ _ _ _ (by simp)];exact k1)]
 ·rw[World.cell?_setCell_same _ _ _ (by rw[World.cell?_setCell_other _ _ _ _ (by simp),World.cell?_setCell_other _ _ _ _ (by simp)];exact k2)]
 ·exact((hb.setCell (p:=⟨g,0,none⟩) hB x).setCell (p:=⟨g,1,none⟩) hB y).setCell (p:=⟨g,2,none⟩) hB z
theorem Qgn(w:World)(p n:Nat)(hp:p=2\/p∈Zba)(E0:Zup p)(hn:n<=1000)(L:Qa w):
  Kc Tryz.prog 105 #[.int .i64 p,.int .i64 n] w (.tuple #[Qe2 p n (dec (lgN p n)),.int .i64 0]):=by
 unfold Kc Qe2;have gm:=hd_ ((Below.refl w.heap.size w).alloc nr_ (.cells #[.int .i64 0,.int .i64 0,.string ⟨#[]⟩] 124));have ge:Hid ((w.alloc (.cells #[.int .i64 0,.int .i64 0,.string ⟨#[]⟩] 124)).heap[w.heap.size]?=some (.cells #[.int .i64 0,.int .i64 0,.string ⟨#[]⟩] 124 (0,0))):=heap_alloc_new w _;have aQ:=Qga E0;have HC:=hd_ (fun W=>Zii W p n (by omega) (by omega) (by omega) (by omega));have Gr:Zlz p n=0:=by unfold Zlz;rw[if_pos E0,if_neg (by omega)]
 rw[Gr] at HC;have og:=hd_ (fun W (hW:Bw_ w W)=>Zr0 W p n hp hn (L.below hW));clear Gr hp E0 L aQ hn;generalize dec (lgN p n)=s at *;go_enter Tryz.func105,Tryz.ntmps105;go_wp2_with fail;generalize w.alloc (.cells #[.int .i64 0,.int .i64 0,.string ⟨#[]⟩] 124)=W0 at *;refine cm_ (HC.o _) ?_;rintro e w1 ⟨rfl,hb⟩;have B1:=hd_ hb;have Av:=bt_ gm hb;clear hb HC;go_wp2_with fail;refine cm_ (og.o _ Av.o) ?_;rintro e w2 ⟨rfl,hb⟩;have B2:=bt_ B1 hb;have gq:Hid (w2.heap[w.heap.size]?=some (.cells #[.int .i64 0,.int .i64 0,.string ⟨#[]⟩] 124 (0,0))):=by
  show _=_
  rw[B2.o.block _ (Array.getElem?_eq_some_iff.1 ge.o).1];exact ge.o
 have gO:=bt_ Av hb;obtain⟨k0,k1,k2,kf⟩:=Kd gq.o;have f0:=kf 0;have f1:=kf 1;have f2:=kf 2;clear hb og kf gq ge gm B1 B2 Av;go_wp2;obtain⟨c0,c1,c2,hb3⟩:=Zbo (.int .i64 p) (.int .i64 n) (.string s) k0 k1 k2 nr_ gO.o;generalize ((w2.setCell ⟨w.heap.size,0,none⟩ (.int .i64 p)).setCell ⟨w.heap.size,1,none⟩ (.int .i64 n)).setCell ⟨w.heap.size,2,none⟩ (.string s)=w9 at *;exact bodyPost_ret (v := .tuple #[.agg #[.int .i64 p,.int .i64 n,.string s],.int .i64 0]) (by simp[results,Tryz.results105,go_sem,c0,c1,c2]) rfl ⟨rfl,hb3⟩
theorem Zrx(n:Nat):∀ (ps:List Int) (l:List Rat) (p:Int) (c:Rat),ps.length=l.length ->
  loE n (ps++[p]) (l++[c])=loE n ps l+Zix (c*xE p n) (c*yE p n)/\hiE n (ps++[p]) (l++[c])=hiE n ps l+Ziy (c*xE p n) (c*yE p n)
 | [],[],p,c,_=>by
  show _+(0:Rat)=0+_/\_+(0:Rat)=0+_
  rw[Rat.add_zero,Rat.zero_add,Rat.add_zero,Rat.zero_add];exact⟨rfl,rfl⟩
 | [],_::_,_,_,h=>by simp at h
 | _::_,[],_,_,h=>by simp at h
 | q::ps,d::l,p,c,h=>by
  obtain⟨i1,i2⟩:=Zrx n ps l p c (by simpa using h);simp only[List.cons_append,loE,hiE];rw[i1,i2,Rat.add_assoc,Rat.add_assoc];exact⟨rfl,rfl⟩
theorem Znq(n:Nat)(ps:List Int)(l:List Rat)(k:Nat)(h:l.length=ps.length)(h1:k<ps.length)(h2:k<l.length):
  loE n (ps.take (k+1)) (l.take (k+1))=loE n (ps.take k) (l.take k)+Zix (l[k]*xE ps[k] n) (l[k]*yE ps[k] n) /\
  hiE n (ps.take (k+1)) (l.take (k+1))=hiE n (ps.take k) (l.take k)+Ziy (l[k]*xE ps[k] n) (l[k]*yE ps[k] n):=by
 have e1:ps.take (k+1)=ps.take k++[ps[k]]:=by rw[List.take_add_one,List.getElem?_eq_getElem h1];rfl
 have e2:l.take (k+1)=l.take k++[l[k]]:=by rw[List.take_add_one,List.getElem?_eq_getElem h2];rfl
 rw[e1,e2];exact Zrx n _ _ _ _ (by simp;omega)
theorem Zxf(n:Nat)(p:Int):Zix ((0:Rat)*xE p n) (0*yE p n)=0/\Ziy ((0:Rat)*xE p n) (0*yE p n)=0:=by
 rw[Rat.zero_mul,Rat.zero_mul];exact⟨rfl,rfl⟩
theorem Zhr{D:Nat}{a b:Rat}(ha:Sm D a)(hb:Sm D b):Sm D (Zix a b):=by unfold Zix;split<;>assumption
theorem Zhs{D:Nat}{a b:Rat}(ha:Sm D a)(hb:Sm D b):Sm D (Ziy a b):=by unfold Ziy;split<;>assumption
theorem Zja(n D:Nat)(h:n<=3*D):2^n<=10^D:=by
 refine Nat.le_trans (Nat.pow_le_pow_right (by decide) h) ?_;rw[Nat.pow_mul];exact Nat.pow_le_pow_left (by decide) D
theorem Qe5{p:Int}{n:Nat}(hp:∃ q:Nat,p=q/\(q=2\/q∈Zba))(hn:n<=1056):Sm 355 (xE p n)/\Sm 355 (yE p n):=by
 obtain⟨h1,h2⟩:=Qdp hp hn;obtain⟨D,hD⟩:∃ D,D=354:=⟨_,rfl⟩;have e:2^(n+3)<=10^D:=Zja _ _ (by omega);have e2:2^n<=10^D:=Zja _ _ (by omega);have e3:(10:Nat)^(D+1)=10^D*10:=Nat.pow_succ ..;have h0:0<(10:Nat)^D:=Nat.pow_pos (by decide);have Eu:lgN p n<2^(n+3):=h1;rw[show 355=D+1 by omega];unfold xE yE
 by_cases h:p=2
 ·rw[if_pos h,if_pos h];have:Sm 1 (1:Rat):=⟨by decide,by decide⟩
  exact⟨this.le (by omega),this.le (by omega)⟩
 ·rw[if_neg h,if_neg h];generalize 10^D=T at *;generalize 2^(n+3)=U at *;have hz:2^n≠0:=Nat.ne_of_gt (Nat.two_pow_pos n);exact⟨Sm.mk' hz (by rw[Int.natAbs_natCast,e3];omega) (by rw[e3];omega),Sm.mk' hz (by rw[Int.natAbs_natCast,e3];omega) (by rw[e3];omega)⟩
theorem Zpw{D n:Nat}(hn:n<=1056){ps:List Int}{l:List Rat}(hp:∀ p∈ps,∃ q:Nat,p=q/\(q=2\/q∈Zba))(hl:l.length=ps.length)(hs:∀ q∈l,Sm D q):
  ∀ k,k<=ps.length->Sm (1+k*(D+356)) (loE n (ps.take k) (l.take k))/\Sm (1+k*(D+356)) (hiE n (ps.take k) (l.take k))
 | 0,_=>by
  have:Sm 1 (0:Rat):=⟨by decide,by decide⟩
  rw[Nat.zero_mul];exact⟨this,this⟩
 | k+1,h=>by
  obtain⟨i1,i2⟩:=Zpw hn hp hl hs k (by omega);obtain⟨e1,e2⟩:=Znq n ps l k hl (by omega) (by omega);obtain⟨s1,s2⟩:=Qe5 (hp _ (List.getElem_mem (show k<ps.length by omega))) hn;have hc:=hs _ (List.getElem_mem (show k<l.length by omega));rw[e1,e2,show 1+(k+1)*(D+356)=1+k*(D+356)+(D+355)+1 by rw[Nat.add_mul];omega];exact⟨i1.add (Zhr (hc.mul s1) (hc.mul s2)),i2.add (Zhs (hc.mul s1) (hc.mul s2))⟩
/-! The least number of bits. -/
structure Zbk (T:Nat->Bool) (n:Nat):Prop where
 at_:T n=true
 low:n=0\/T (n-1)=false
 le:n<=1000
theorem Zqt{T:Nat->Bool}(hm:∀ n,n<1000->T n=true->T (n+1)=true):∀ d n,n+d<=1000->T n=true->T (n+d)=true
 | 0,_,_,h=>h
 | d+1,n,hd,h=>hm (n+d) (by omega) (Zqt hm d n (by omega) h)
theorem Zbk.uniq{T:Nat->Bool}(hm:∀ n,n<1000->T n=true->T (n+1)=true){n m:Nat}(h1:Zbk T n)(h2:Zbk T m):n=m:=by
 have Gg:∀ a b,Zbk T a->Zbk T b->¬ a<b:=fun a b ha hb hc=>by
  have h3:=Zqt hm (b-1-a) a (by have:=hb.le;omega) ha.at_;rw[show a+(b-1-a)=b-1 by omega] at h3;rcases hb.low with h4|h4
  ·omega
  ·rw[h3] at h4;cases h4
 have:=Gg n m h1 h2
 have:=Gg m n h2 h1
 omega
def Zwr (B:Nat) (ps:List Int) (l:List Rat):List ByteArray:=(ps.zip l).map fun x=>if x.2.num=0 then ⟨#[]⟩ else dec (lgN x.1 B)
theorem Yf(B:Nat)(ps:List Int)(l:List Rat)(h:l.length=ps.length):(Zwr B ps l).length=ps.length:=by
 unfold Zwr;rw[List.length_map,List.length_zip,h,Nat.min_self]
theorem Zk8(B:Nat)(ps:List Int)(l:List Rat)(h:l.length=ps.length)(k:Nat)(h1:k<ps.length)(h2:k<l.length):(Zwr B ps l).getD k ⟨#[]⟩=if l[k].num=0 then ⟨#[]⟩ else dec (lgN ps[k] B):=by
 unfold Zwr;rw[List.getD_eq_getElem?_getD,List.getElem?_map,List.getElem?_eq_getElem (by rw[List.length_zip];omega),List.getElem_zip];rfl
structure LgS (w:World) (R:Nat) (ps:List Int) (l:List Rat) (B:Nat) (a0:OA_) (c0:Nat) (a1:OA_) (c1:Nat) (a2:OA_) (c2:Nat):Prop where
 ob:w.heap[R]?=some (.cells #[.slice a0 ps.length c0,.slice a1 ps.length c1,.int .i64 B,.slice a2 ps.length c2] 197 (0,0))
 rp:Rd w a0 (Vd ps)
 rl:Rd w a1 (Kj l)
 rs:Rd w a2 (Zd4 (Zwr B ps l))
theorem LgS.below{w w':World}{R:Nat}{ps:List Int}{l:List Rat}{B:Nat}{a0 a1 a2:OA_}{c0 c1 c2:Nat}(h:LgS w R ps l B a0 c0 a1 c1 a2 c2)(hb:Bw_ w w'):LgS w' R ps l B a0 c0 a1 c1 a2 c2 :=
 ⟨by rw[hb.block R (Array.getElem?_eq_some_iff.1 h.ob).1];exact h.ob,h.rp.below hb nr_,h.rl.below hb nr_,h.rs.below hb nr_⟩
def Zod (w:World) (R:Nat) (ps:List Int) (l:List Rat) (B:Nat):Prop:=∃ a0 c0 a1 c1 a2 c2,LgS w R ps l B a0 c0 a1 c1 a2 c2
theorem Zod.below{w w':World}{R:Nat}{ps:List Int}{l:List Rat}{B:Nat}(h:Zod w R ps l B)(hb:Bw_ w w'):Zod w' R ps l B:=by
 obtain⟨a0,c0,a1,c1,a2,c2,S⟩:=h;exact⟨a0,c0,a1,c1,a2,c2,S.below hb⟩
theorem Zdn{w:World}{g:Nat}{a b c d:Value}{t:TypeId}(h:w.heap[g]?=some (.cells #[a,b,c,d] t (0,0))):
  w.cell? ⟨g,0,none⟩=some a/\w.cell? ⟨g,1,none⟩=some b/\w.cell? ⟨g,2,none⟩=some c/\w.cell? ⟨g,3,none⟩=some d/\(∀ j,w.frozen? ⟨g,j,none⟩=false):=by
 refine⟨by rw[cell_of_row w g 0 _ t (0,0) h];rfl,by rw[cell_of_row w g 1 _ t (0,0) h];rfl,by rw[cell_of_row w g 2 _ t (0,0) h];rfl,by rw[cell_of_row w g 3 _ t (0,0) h];rfl,fun j=>?_⟩;simp[World.frozen?,h]
theorem Zgi(l:List ByteArray)(j:Nat)(h:j<l.length):(Zd4 l)[j]?=some (.string (l.getD j ⟨#[]⟩)):=by
 simp[Zd4,List.getD_eq_getElem?_getD,h]
theorem Qci(w:World)(R:Nat)(ps:List Int)(l:List Rat)(B b k:Nat)(H:Zod w R ps l B)(hl:l.length=ps.length)(hn:ps.length<=100)(hk:k<ps.length)(gX:k<l.length)(hp:∃ q:Nat,ps[k]=q/\(q=2\/q∈Zba))(hz:l[k].num≠0)(hb:b<=B)(hB:B<=1000)(L:Qa w):
  Kc Tryz.prog 136 #[.pointer (some ⟨R,0,none⟩),.int .i64 k,.int .i64 b] w (.string (dec (lgN ps[k] b))):=by
 unfold Kc;obtain⟨a0,c0,a1,c1,a2,c2,S⟩:=H;obtain⟨k0,k1,k2,k3,-⟩:=Zdn S.ob;have gd:=Yf B ps l hl;obtain⟨b2,o2,rfl,HU,GE⟩:=S.rs.open (by rw[Yx,gd];omega);have ct:=GE k _ (Zgi _ k (by rw[gd];exact hk));rw[Zk8 B ps l hl k hk gX,if_neg hz] at ct;obtain⟨q,hq,Gv⟩:=hp;rw[hq] at ct ⊢;have hcut:lgN q B/2^(B-b)=lgN q b:=by
  have:=Zhy Gv (B-b) (n:=b) (by omega)
  rwa [show b+(B-b)=B by omega] at this
 have hw:IntKind.i64.wrap ((B:Int)-b)=((B-b:Nat):Int):=by rw[show (B:Int)-b=((B-b:Nat):Int) by omega];exact iw_ _ (by omega)
 have HP:=hd_ (fun W (hW:Bw_ w W)=>Zrb W (B-b) (by omega) (L.below hW));have H7:lgN q B<2^K10:=by
  refine Nat.lt_trans (Zwv Gv (by omega)) ?_;refine Nat.lt_of_lt_of_le (Nat.mul_lt_mul_of_pos_right (show 7<2^3 by decide) (Nat.two_pow_pos B)) ?_;rw[<- Nat.pow_add];exact Nat.pow_le_pow_right (by decide) (by rw[k10];omega)
 have HD:=hd_ (fun W (hW:Bw_ w W)=>Qgp W (lgN q B) (2^(B-b)) K10 (by decide) H7 (Nat.pow_lt_pow_right (by decide) (by rw[k10];omega)) (Nat.two_pow_pos _) (L.below hW));rw[hcut] at HD;have Lg:k<100:=by omega
 clear hcut H7 S gd GE L hz hl gX Gv hq;generalize dec (lgN q B)=s at *;generalize dec (lgN q b)=s2 at *;generalize dec (lgN q B%2^(B-b))=s3 at *;generalize dec (2^(B-b))=s4 at *;generalize B-b=m at *;generalize ps.length=n at *;have q0:=NW.cell k3;have q1:=NW.cell k2;have q2:=NW.cell ct;have gn:Nonempty (NW w):=⟨⟨w,Below.refl _ _⟩⟩;have I:Hid (Bw_ w w.drew):=(Below.refl _ _).drew;clear k0 k1 k2 k3 ct;go_enter Tryz.func136,Tryz.ntmps136;go_wp2_with fail;refine wn_ 14 [(2,0),(2,1),(2,2),(1,3),(2,4),(2,5),(1,6),(2,7),(2,8),(2,9),(1,10),(2,11),(2,12),(0,13),(0,14),(2,15),(2,16),(2,17),(2,18),(2,19),(2,20),(2,21)] I ?_;iterate 3 (refine wa_ rfl ?_;go_big_quiet_step (fail);refine wq_ ?_)
 refine wr_ rfl ?_;go_big_quiet_step (fail);refine wq_ ?_;iterate 2 (refine wa_ rfl ?_;go_big_quiet_step (fail);refine wq_ ?_)
 refine wr_ rfl ?_;go_big_quiet_step (fail);refine wq_ ?_;iterate 3 (refine wa_ rfl ?_;go_big_quiet_step (fail);refine wq_ ?_)
 refine wr_ rfl ?_;go_big_quiet_step (fail);refine wq_ ?_;iterate 2 (refine wa_ rfl ?_;go_big_quiet_step (fail);refine wq_ ?_)
 clear gn q0 q1 q2;refine wm_ rfl ?_;go_wp2_with fail;refine cm_ (HP.o _ I.o) ?_;rintro e w1 ⟨rfl,hZ⟩;have I1:Hid (Bw_ w w1):=I.o.trans (hZ.mono I.o.size);clear hZ I HP;go_wp2_with fail;refine⟨⟨⟨_,I1.o⟩,rfl⟩,?_⟩;refine wm_ rfl ?_;go_wp2_with fail;refine cm_ (HD.o _ I1.o) ?_;rintro e w2 ⟨rfl,hZ⟩;have I2:Hid (Bw_ w w2):=I1.o.trans (hZ.mono I1.o.size);clear hZ I1 HD;go_wp2_with fail;iterate 7 (refine wa_ rfl ?_;go_big_quiet_step (fail);refine wq_ ?_)
 simp only[RP.walkR];go_wp2_with fail;go_ret;exact⟨rfl,I2.o⟩
def Zfx (w:World) (B:Nat) (a:OA_) (c:Nat) (l:List ByteArray):Prop:=w.ownsRow B 38 1 (.slice a l.length c) l.length (Zd4 l)
theorem Qfq(n:Nat)(w:World)(hn:n<=10000000):
  (Instr.makeSlice 144 (.int .i64 (n:Int)) (.int .i64 (n:Int))).run Tryz.prog w = .ok (.slice (some ⟨w.heap.size,0,none⟩) n n) (w.alloc (.cells (Zd4 (List.replicate n ⟨#[]⟩)).toArray 38)):=by
 have:=run_make_row' (P:=Tryz.prog) 144 38 (.string ⟨#[]⟩) 16 Tryz.underlying144 Qgb rfl .i64 .i64 n (by omega) (by omega) w
 rw[show madeCells #[.string ⟨#[]⟩] n=(Zd4 (List.replicate n ⟨#[]⟩)).toArray by apply Array.ext';rw[toList_madeCells_one];simp[Zd4]] at this;exact this
theorem Zv8(w:World)(l:List ByteArray)(hl:l.length<=100000000):Zfx (w.alloc (.cells (Zd4 l).toArray 38)) w.heap.size (some ⟨w.heap.size,0,none⟩) l.length l :=
 ⟨by simp[Yx],.inr ⟨w.heap.size,l.length,(Zd4 l).toArray,rfl,Nat.le_refl _,heap_alloc_new _ _,Nat.le_refl _,by unfold maxLen;omega,by simp[Yx],by rw[Nat.mul_one];exact List.take_of_length_le (by simp[Yx])⟩⟩
theorem Zfx.open{w:World}{B c:Nat}{a:OA_}{l:List ByteArray}(h:Zfx w B a c l)(hn:0<l.length):
  ∃ g,a=some ⟨g,0,none⟩/\B<=g/\g<w.heap.size/\l.length<=c/\(∀ j,j<l.length->w.cell? ⟨g,j,none⟩=some (.string (l.getD j ⟨#[]⟩)))/\(∀ j,w.frozen? ⟨g,j,none⟩=false):=by
 obtain⟨g,cap,hv,h1,h2,h3,h4,h5⟩:=Qz h hn;simp only[Value.slice.injEq] at hv;obtain⟨rfl,-,rfl⟩:=hv;exact⟨g,rfl,h1,h2,h3,fun j hj=>by rw[h4 j (by omega),Zgi l j hj],h5⟩
theorem Zfx.store{w:World}{B c g:Nat}{l:List ByteArray}(h:Zfx w B (some ⟨g,0,none⟩) c l)(j:Nat)(x:ByteArray):
  Zfx (w.setCell ⟨g,j,none⟩ (.string x)) B (some ⟨g,0,none⟩) c (l.set j x):=by
 have:=(World.ownsRow.stored h j (.string x)).1
 have e:(Zd4 l).set j (.string x)=Zd4 (l.set j x):=by simp[Zd4,List.map_set]
 rw[e] at this;unfold Zfx;rw[List.length_set];exact this
theorem Zfx.rd{w:World}{B:Nat}{a:OA_}{c:Nat}{l:List ByteArray}(h:Zfx w B a c l):Rd w a (Zd4 l):=by
 by_cases hn:0<l.length
 ·obtain⟨g,rfl,h1,h2,h3,h4,h5⟩:=h.open hn;refine .inr ⟨g,0,rfl,h2,fun i v hi=>?_⟩;have H7:=(List.getElem?_eq_some_iff.1 hi).1;rw[Yx] at H7;rw[Zgi l i H7] at hi;rw[Nat.zero_add,<- hi];exact h4 i H7
 ·obtain rfl:=List.length_eq_zero_iff.1 (Nat.eq_zero_of_not_pos hn);exact .inl rfl
def Zpk (B:Nat) (ps:List Int) (l:List Rat) (k:Nat):List ByteArray:=(Zwr B ps l).take k++List.replicate (ps.length-k) ⟨#[]⟩
theorem Zpj(B:Nat)(ps:List Int)(l:List Rat)(h:l.length=ps.length)(k:Nat)(hk:k<=ps.length):(Zpk B ps l k).length=ps.length:=by
 unfold Zpk;rw[List.length_append,List.length_take,Yf B ps l h,List.length_replicate];omega
theorem Zzx(B:Nat)(ps:List Int)(l:List Rat)(h:l.length=ps.length)(k:Nat)(hk:k<ps.length):(Zpk B ps l k).set k ((Zwr B ps l).getD k ⟨#[]⟩)=Zpk B ps l (k+1):=by
 have hl:((Zwr B ps l).take k).length=k:=by rw[List.length_take,Yf B ps l h];omega
 unfold Zpk;rw[List.set_append_right _ _ (by omega),hl,Nat.sub_self,List.take_add_one,List.getElem?_eq_getElem (by rw[Yf B ps l h];exact hk),show ps.length-k=(ps.length-(k+1))+1 by omega,List.replicate_succ,List.set_cons_zero,List.append_assoc];congr 1;rw[List.getD_eq_getElem?_getD,List.getElem?_eq_getElem (by rw[Yf B ps l h];exact hk)];rfl
theorem Qdm(B:Nat)(ps:List Int)(l:List Rat)(h:l.length=ps.length)(k:Nat)(hk:k<ps.length):(Zpk B ps l k).getD k ⟨#[]⟩=⟨#[]⟩:=by
 have hl:((Zwr B ps l).take k).length=k:=by rw[List.length_take,Yf B ps l h];omega
 unfold Zpk;rw[List.getD_eq_getElem?_getD,List.getElem?_append_right (by omega),hl,List.getElem?_replicate];split<;>rfl
theorem Zzy(B:Nat)(ps:List Int)(l:List Rat)(h:l.length=ps.length):Zpk B ps l ps.length=Zwr B ps l:=by
 unfold Zpk;rw[Nat.sub_self,List.replicate_zero,List.append_nil,List.take_of_length_le (by rw[Yf B ps l h];exact Nat.le_refl _)]
theorem Zws(B:Nat)(ps:List Int)(l:List Rat):Zpk B ps l 0=List.replicate ps.length ⟨#[]⟩:=by simp[Zpk]
structure OpI (w wr:World) (ps:List Int) (l:List Rat) (B k:Nat) (a0:OA_) (c0:Nat) (a1:OA_) (c1:Nat):Prop where
 ob:wr.heap[w.heap.size+1]?=some (.cells #[.slice a0 ps.length c0,.slice a1 ps.length c1,.int .i64 B,.slice (some ⟨w.heap.size,0,none⟩) ps.length ps.length] 197 (0,0))
 own:Zfx wr w.heap.size (some ⟨w.heap.size,0,none⟩) ps.length (Zpk B ps l k)
 bel:Bw_ w wr
theorem Zff(w:World)(ps:List Int)(l:List Rat)(B:Nat)(a0 a1:OA_)(c0 c1:Nat)(rp:Rd w a0 (Vd ps))(rl:Rd w a1 (Kj l))(hl:l.length=ps.length)(hn:ps.length<=100)(hp:∀ p∈ps,∃ q:Nat,p=q/\(q=2\/q∈Zba))(hB:B<=1000)(L:Qa w):
  Calls Tryz.prog 120 #[.slice a0 ps.length c0,.slice a1 ps.length c1,.int .i64 B] w fun e w'=>∃ R,e = .returned (.pointer (some ⟨R,0,none⟩))/\Zod w' R ps l B/\w.heap.size<=R/\Bw_ w w':=by
 have Bf:=hd_ rp;have Bg:=hd_ rl;have HL:=hd_ L;have Hl:=hd_ hl;have DA:=hd_ (fun (k:Nat) (hk:k<ps.length) (W:World) (hW:Bw_ w W)=>show Kc Tryz.prog 186 #[.int .i64 ps[k],.int .i64 B] W (.string (dec (lgN ps[k] B))) from by
  obtain⟨q,hq,Gv⟩:=hp _ (List.getElem_mem hk);rw[hq];exact Zr0 W q B Gv hB (L.below hW))
 have mF:=hd_ (fun k h1 h2=>Zk8 B ps l hl k h1 h2);have Ag:=hd_ (fun k h=>Zzx B ps l hl k h);have jM:=hd_ (fun k h=>Qdm B ps l hl k h);have fV:=hd_ (Zzy B ps l hl);have ES:=hd_ (fun k h=>Zpj B ps l hl k h);clear rp rl L hp;obtain⟨n,cg⟩:∃ n,ps.length=n:=⟨_,rfl⟩;have fN:=Qfq n w (by omega);have gw:Hid (Zfx (w.alloc (.cells (Zd4 (List.replicate n ⟨#[]⟩)).toArray 38)) w.heap.size (some ⟨w.heap.size,0,none⟩) n (Zpk B ps l 0)):=by
  have:=Zv8 w (List.replicate n ⟨#[]⟩) (by simp;omega)
  rw[List.length_replicate] at this;rw[Zws,cg];exact this
 have Hb:=hd_ ((Below.refl w.heap.size w).alloc nr_ (.cells (Zd4 (List.replicate n ⟨#[]⟩)).toArray 38));have Gu:(w.alloc (.cells (Zd4 (List.replicate n ⟨#[]⟩)).toArray 38)).heap.size=w.heap.size+1:=by simp
 generalize w.alloc (.cells (Zd4 (List.replicate n ⟨#[]⟩)).toArray 38)=w1 at *;have fY:Hid (OpI w (w1.alloc (.cells #[.slice a0 n c0,.slice a1 n c1,.int .i64 B,.slice (some ⟨w.heap.size,0,none⟩) n n] 197)) ps l B 0 a0 c0 a1 c1):=by
  refine⟨?_,?_,Hb.o.alloc (by omega) _⟩
  ·rw[<- Gu,cg];exact heap_alloc_new w1 _
  ·rw[cg];exact(show Zfx _ _ _ _ _ from World.ownsRow.alloc gw.o _)
 have Hn:=hd_ cg;rw[cg];clear cg gw Hb;go_enter Tryz.func120,Tryz.ntmps120;go_wp2_with fail
 go_loopw [20] (fun i wr=>∃ k:Nat,k<=n/\i = .int .i64 k/\Hid (OpI w wr ps l B k a0 c0 a1 c1)) (fun i _=>n-(intOf i).toNat)
 case atStart=>exact⟨0,Nat.zero_le _,rfl,by rw[Gu] at *;exact fY⟩
 case round =>
  obtain⟨k,hk,rfl,HI⟩:=hrel;clear fY
  by_cases H7:k<n
  ·have gi:(k:Int)<n:=by omega
   have fA:k<ps.length:=by rw[Hn.o];exact H7
   have gX:k<l.length:=by rw[Hl.o];exact fA
   obtain⟨b0,o0,rfl,Gr,fH⟩:=Bf.o.open (by rw[Qw];omega);have cp:=fH k _ (Yn ps k fA);rw[<- HI.o.bel.cell (p:=⟨b0,o0+k,none⟩) Gr] at cp;obtain⟨b1,o1,rfl,hZ,gG⟩:=Bg.o.open (by rw[Kq];omega);obtain⟨x0,x1⟩:=Qb gG k (by rw[List.length_map];exact gX);rw[Qc l k gX] at x0 x1;rw[<- HI.o.bel.cell (p:=⟨b1,o1+k*2,none⟩) hZ] at x0;rw[<- HI.o.bel.cell (p:=⟨b1,o1+k*2+1,none⟩) hZ] at x1;have gZ:=hd_ (fun W=>Zos W l[k]);have ay:IntKind.i64.wrap ((k:Int)+1)=((k+1:Nat):Int):=by rw[<- Int.natCast_succ];exact iw_ _ (by omega)
   have GJ:=mF.o k fA gX;have GH:=Ag.o k fA;have Dt:=jM.o k fA;have fy:=hd_ (fun W (hW:Bw_ w W)=>DA.o k fA W hW);have gd:=ES.o k (by rw[Hn.o];omega);clear fH gG;unfold fr fv at gZ;unfold qs at x0 x1;generalize l[k]=q at *;generalize ps[k]=pk at *;simp only at x0 x1
   by_cases hz:q.num=0
   ·rw[hz] at gZ;rw[if_pos hz] at GJ;rw[GJ] at GH;have Ed:Zpk B ps l (k+1)=Zpk B ps l k:=by
     rw[<- GH];refine List.ext_getElem? fun i=>?_
     by_cases hi:k=i
     ·subst hi;rw[List.getElem?_set_self (by rw[gd];exact fA)];rw[List.getD_eq_getElem?_getD,List.getElem?_eq_getElem (by rw[gd];exact fA)] at Dt;rw[List.getElem?_eq_getElem (by rw[gd];exact fA)];exact congrArg some Dt.symm
     ·rw[List.getElem?_set_ne hi]
    rw[hz] at x0;have HS:=hd_ Ed;clear GJ GH Dt gd Ed hz fy;go_wp2_with fail;refine cm_ (gZ.o _) ?_;rintro e w2 ⟨rfl,hb⟩;have gk:Hid (OpI w w2 ps l B (k+1) (some ⟨b0,o0,none⟩) c0 (some ⟨b1,o1,none⟩) c1) :=
     ⟨by rw[hb.block _ (Array.getElem?_eq_some_iff.1 HI.o.ob).1];exact HI.o.ob,by rw[HS.o];exact Ky HI.o.own hb nr_,HI.o.bel.trans (hb.mono HI.o.bel.size)⟩
    clear hb gZ HI HS;go_wp2_with fail;refine⟨⟨k+1,by omega,by go_num,gk⟩,by simp[intOf];omega⟩
   ·rw[if_neg hz] at GJ;rw[GJ] at GH;have lL:(q.num.sign==0)=false:=by
     rw[beq_eq_false_iff_ne];intro h;exact hz (Int.sign_eq_zero_iff_zero.1 h)
    have MT:(q.num.sign != 0)=true:=by
     rw[bne_iff_ne];intro h;exact hz (Int.sign_eq_zero_iff_zero.1 h)
    clear GJ Dt gd hz;go_wp2_with fail;refine cm_ (gZ.o _) ?_;rintro e w2 ⟨rfl,hb⟩;have gk:Hid (OpI w w2 ps l B k (some ⟨b0,o0,none⟩) c0 (some ⟨b1,o1,none⟩) c1) :=
     ⟨by rw[hb.block _ (Array.getElem?_eq_some_iff.1 HI.o.ob).1];exact HI.o.ob,Ky HI.o.own hb nr_,HI.o.bel.trans (hb.mono HI.o.bel.size)⟩
    clear hb gZ HI x0 x1 cp lL;obtain⟨k0,k1,k2,k3,-⟩:=Zdn gk.o.ob;rw[Hn.o] at k3;have q0:=NW.cell k3;have gn:Nonempty (NW w2):=⟨⟨w2,Below.refl _ _⟩⟩;have I:Hid (Bw_ w2 w2.drew):=(Below.refl _ _).drew;clear k0 k1 k2 k3;go_wp2_with fail;refine wn_ 9 [(2,0),(2,1),(2,2),(1,3),(2,4),(2,5),(2,6),(0,7),(2,8),(0,9)] I ?_;iterate 3 (refine wa_ rfl ?_;go_big_quiet_step (fail);refine wq_ ?_)
    refine wr_ rfl ?_;go_big_quiet_step (fail);refine wq_ ?_;iterate 3 (refine wa_ rfl ?_;go_big_quiet_step (fail);refine wq_ ?_)
    clear gn q0;refine wm_ rfl ?_;go_wp2_with fail;refine cm_ (fy.o _ (gk.o.bel.trans (I.o.mono gk.o.bel.size))) ?_;rintro e w3 ⟨rfl,hb⟩;have I3:Hid (Bw_ w2 w3):=I.o.trans (hb.mono I.o.size);clear hb I fy;have gE:Hid (OpI w w3 ps l B k (some ⟨b0,o0,none⟩) c0 (some ⟨b1,o1,none⟩) c1) :=
     ⟨by rw[I3.o.block _ (Array.getElem?_eq_some_iff.1 gk.o.ob).1];exact gk.o.ob,Ky gk.o.own I3.o nr_,gk.o.bel.trans (I3.o.mono gk.o.bel.size)⟩
    obtain⟨g,hg,fF,hg2,hg3,hg4,hg5⟩:=gE.o.own.open (by rw[ES.o k (by rw[Hn.o];omega)];omega);obtain rfl:w.heap.size=g:=by simpa using hg
    have rk:=hg4 k (by rw[ES.o k (by rw[Hn.o];omega)];exact fA);have nw:=hg5 k;clear hg hg3 hg4 hg5;have Gf:Hid (OpI w (w3.setCell ⟨w.heap.size,k,none⟩ (.string (dec (lgN pk B)))) ps l B (k+1) (some ⟨b0,o0,none⟩) c0 (some ⟨b1,o1,none⟩) c1) :=
     ⟨by rw[Below.heap_setCell _ _ _ _ (by show w.heap.size+1≠w.heap.size;omega)];exact gE.o.ob,by rw[<- GH];exact gE.o.own.store k _,gE.o.bel.setCell (p:=⟨w.heap.size,k,none⟩) nr_ _⟩
    go_wp2_with fail;refine⟨⟨⟨_,I3.o⟩,rfl⟩,?_⟩;clear I3 gk gE;refine wa_ rfl ?_;go_big_quiet_step (fail);refine wq_ ?_;refine wm_ rfl ?_;go_wp2_with fail;simp only[RP.walkR];go_wp2_with fail;refine⟨⟨k+1,by omega,by go_num,Gf⟩,by simp[intOf];omega⟩
  ·obtain rfl:k=n:=by omega
   have gi:¬ (k:Int)<k:=by omega
   have HR:Hid (Zod wr (w.heap.size+1) ps l B):=by
    refine⟨a0,c0,a1,c1,some ⟨w.heap.size,0,none⟩,ps.length,HI.o.ob,Bf.o.below HI.o.bel nr_,Bg.o.below HI.o.bel nr_,?_⟩;have:=HI.o.own
    rw[<- Hn.o,fV.o,Hn.o] at this;have h2:Zfx wr w.heap.size (some ⟨w.heap.size,0,none⟩) ps.length (Zwr B ps l):=by rw[Hn.o];exact this
    exact h2.rd
   go_wp2_with fail;go_ret;exact⟨w.heap.size+1,rfl,HR.o,Nat.le_succ _,HI.o.bel⟩
theorem Zap{w:World}{R:Nat}{x y x' y':Value}{t:TypeId}(h:w.heap[R]?=some (.cells #[x,y] t (0,0))):
  ((w.setCell ⟨R,0,none⟩ x').setCell ⟨R,1,none⟩ y').heap[R]?=some (.cells #[x',y'] t (0,0)):=by
 have H7:=lt_of_block h;have h':w.heap[R] = .cells #[x,y] t (0,0):=by simpa [Array.getElem?_eq_getElem H7] using h
 have e1:(w.setCell ⟨R,0,none⟩ x').heap[R]?=some (.cells #[x',y] t (0,0)):=by
  show (w.heap.modify R _)[R]?=_
  rw[Array.getElem?_eq_getElem (by simpa using H7),Array.getElem_modify_self,h'];rfl
 have Gk:=lt_of_block e1;have eX:(w.setCell ⟨R,0,none⟩ x').heap[R] = .cells #[x',y] t (0,0):=by simpa [Array.getElem?_eq_getElem Gk] using e1
 show ((w.setCell ⟨R,0,none⟩ x').heap.modify R _)[R]?=_
 rw[Array.getElem?_eq_getElem (by simpa using Gk),Array.getElem_modify_self,eX];rfl
def Zc0 (w:World) (g:Nat) (q:Rat):Prop:=w.heap[g]?=some (.cells #[.string (itx q.num),.string (dec q.den)] 101 (0,0))
theorem Zc0.below{w w':World}{g:Nat}{q:Rat}(h:Zc0 w g q)(hb:Bw_ w w'):Zc0 w' g q:=by
 unfold Zc0 at *
 rw[hb.block g (Array.getElem?_eq_some_iff.1 h).1];exact h
structure EnI (w wr:World) (lo hi:Rat):Prop where
 e0:Zc0 wr w.heap.size lo
 e1:Zc0 wr (w.heap.size+1) hi
 bel:Bw_ w wr
theorem EnI.below{w wr w':World}{lo hi:Rat}(h:EnI w wr lo hi)(hb:Bw_ wr w'):EnI w w' lo hi:=⟨h.e0.below hb,h.e1.below hb,h.bel.trans (hb.mono h.bel.size)⟩
def Zp (w:World) (E:Nat) (a b:Rat):World :=
 (((w.setCell ⟨E,0,none⟩ (.string (itx a.num))).setCell ⟨E,1,none⟩ (.string (dec a.den))).setCell ⟨E+1,0,none⟩ (.string (itx b.num))).setCell ⟨E+1,1,none⟩ (.string (dec b.den))
theorem EnI.put{w wr:World}{lo hi:Rat}(h:EnI w wr lo hi)(a b:Rat):EnI w (Zp wr w.heap.size a b) a b:=by
 have h1:=Zap (x' := .string (itx a.num)) (y' := .string (dec a.den)) h.e0;have e1:((wr.setCell ⟨w.heap.size,0,none⟩ (.string (itx a.num))).setCell ⟨w.heap.size,1,none⟩ (.string (dec a.den))).heap[w.heap.size+1]?=some (.cells #[.string (itx hi.num),.string (dec hi.den)] 101 (0,0)):=by
  rw[Below.heap_setCell _ _ _ _ (by show w.heap.size+1≠w.heap.size;omega),Below.heap_setCell _ _ _ _ (by show w.heap.size+1≠w.heap.size;omega)];exact h.e1
 have h2:=Zap (x' := .string (itx b.num)) (y' := .string (dec b.den)) e1;unfold Zp;refine⟨?_,h2,?_⟩
 ·unfold Zc0;rw[Below.heap_setCell _ _ _ _ (by show w.heap.size≠w.heap.size+1;omega),Below.heap_setCell _ _ _ _ (by show w.heap.size≠w.heap.size+1;omega)];exact h1
 ·exact(((h.bel.setCell (p:=⟨w.heap.size,0,none⟩) nr_ _).setCell (p:=⟨w.heap.size,1,none⟩) nr_ _).setCell (p:=⟨w.heap.size+1,0,none⟩) (Nat.le_succ _) _).setCell (p:=⟨w.heap.size+1,1,none⟩) (Nat.le_succ _) _
theorem EnI.set{w wr:World}{lo hi:Rat}(h:EnI w wr lo hi){g:Nat}(hg:w.heap.size+2<=g)(x y:Value):EnI w ((wr.setCell ⟨g,0,none⟩ x).setCell ⟨g,1,none⟩ y) lo hi:=by
 refine⟨?_,?_,(h.bel.setCell (p:=⟨g,0,none⟩) (by show _<=g;omega) _).setCell (p:=⟨g,1,none⟩) (by show _<=g;omega) _⟩
 ·unfold Zc0;rw[Below.heap_setCell _ _ _ _ (by show w.heap.size≠g;omega),Below.heap_setCell _ _ _ _ (by show w.heap.size≠g;omega)];exact h.e0
 ·unfold Zc0;rw[Below.heap_setCell _ _ _ _ (by show w.heap.size+1≠g;omega),Below.heap_setCell _ _ _ _ (by show w.heap.size+1≠g;omega)];exact h.e1
theorem Zc0.set{w:World}{g k:Nat}{q:Rat}(h:Zc0 w g q)(hk:g≠k)(x y:Value):Zc0 ((w.setCell ⟨k,0,none⟩ x).setCell ⟨k,1,none⟩ y) g q:=by
 unfold Zc0;rw[Below.heap_setCell _ _ _ _ hk,Below.heap_setCell _ _ _ _ hk];exact h
theorem Zc0.put{w:World}{g:Nat}{q:Rat}(h:Zc0 w g q)(a:Rat):Zc0 ((w.setCell ⟨g,0,none⟩ (.string (itx a.num))).setCell ⟨g,1,none⟩ (.string (dec a.den))) g a:=Zap h
theorem Zc0.new(w:World)(q:Rat):Zc0 (w.alloc (.cells #[.string (itx q.num),.string (dec q.den)] 101)) w.heap.size q:=heap_alloc_new w _
theorem Zyk:itx (0:Rat).num=⟨#[48]⟩/\dec (0:Rat).den=⟨#[49]⟩:=by
 refine⟨?_,?_⟩
 ·show itx 0=_
  rw[show itx 0=dec 0 from Kg 0];have:(dec 0).data = #[48]:=by decide +kernel
  exact ByteArray.ext this
 ·exact Zt
structure EnW (w0:World) (lo hi:Rat) where
 w:World
 h:EnI w0 w lo hi
theorem EnW.cells{w0:World}{lo hi:Rat}(p:EnW w0 lo hi):p.w.cell? ⟨w0.heap.size,0,none⟩=some (.string (itx lo.num))/\p.w.cell? ⟨w0.heap.size,1,none⟩=some (.string (dec lo.den))/\p.w.cell? ⟨w0.heap.size+1,0,none⟩=some (.string (itx hi.num))/\p.w.cell? ⟨w0.heap.size+1,1,none⟩=some (.string (dec hi.den)):=by
 obtain⟨k0,k1,-,-⟩:=Ka p.h.e0;obtain⟨k2,k3,-,-⟩:=Ka p.h.e1;exact⟨k0,k1,k2,k3⟩
theorem EnI.put0{w wr:World}{lo hi:Rat}(h:EnI w wr lo hi)(a:Rat):EnI w ((wr.setCell ⟨w.heap.size,0,none⟩ (.string (itx a.num))).setCell ⟨w.heap.size,1,none⟩ (.string (dec a.den))) a hi :=
 ⟨Zap h.e0,Zc0.set h.e1 (by omega) _ _,(h.bel.setCell (p:=⟨w.heap.size,0,none⟩) nr_ _).setCell (p:=⟨w.heap.size,1,none⟩) nr_ _⟩
theorem EnI.put1{w wr:World}{lo hi:Rat}(h:EnI w wr lo hi)(a:Rat):EnI w ((wr.setCell ⟨w.heap.size+1,0,none⟩ (.string (itx a.num))).setCell ⟨w.heap.size+1,1,none⟩ (.string (dec a.den))) lo a :=
 ⟨Zc0.set h.e0 (by omega) _ _,Zap h.e1,(h.bel.setCell (p:=⟨w.heap.size+1,0,none⟩) (Nat.le_succ _) _).setCell (p:=⟨w.heap.size+1,1,none⟩) (Nat.le_succ _) _⟩
theorem Zho{x:Nat}(h:x<2^K10):Num x:=Vy h (by decide)
theorem Qb7{q b:Nat}(hq:q=2\/q∈Zba)(hb:b<=1000):lgN q b+2<2^K10/\2^b+1<2^K10:=by
 have h1:=Zwv hq (show b<=1056 by omega);have h2:8*2^b<=2^K10:=by
  rw[show 8=2^3 from rfl,<- Nat.pow_add];exact Nat.pow_le_pow_right (by decide) (by rw[k10];omega)
 have h3:8*2^b+8<=2^K10:=by
  have e:8*2^b*2<=2^K10:=by
   rw[show 8=2^3 from rfl,<- Nat.pow_add,<- Nat.pow_succ];exact Nat.pow_le_pow_right (by decide) (by rw[k10];omega)
  have:=Nat.two_pow_pos b
  omega
 have:=Nat.two_pow_pos b
 omega
theorem Qg3(w:World)(n d:Nat)(hn:n+1<2^K10)(hd:d+1<2^K10)(fh:0<d)(L:Qa w):
  Kc Tryz.prog 204 #[.string (dec n),.string (dec d)] w (.tuple #[fr (mkRat (n:Int) d),.int .i64 0]):=by
 have h:=Zrj w n d (show Num _ from Zho (by rw[Int.natAbs_natCast];omega)) (Zho (by omega)) fh (Zho (by rw[Int.natAbs_natCast];exact hn)) (Zho hd) L;rw[Kg,Zdk _ _ (by omega)] at h;exact h
theorem Zcb(w:World)(R:Nat)(ps:List Int)(l:List Rat)(B b D:Nat)(H:Zod w R ps l B)(hl:l.length=ps.length)(hn:ps.length<=100)(hp:∀ p∈ps,∃ q:Nat,p=q/\(q=2\/q∈Zba))(hs:∀ q∈l,Sm D q)(hD:D<=300)(hb:b<=B)(hB:B<=1000)(L:Qa w):
  Kc Tryz.prog 124 #[.pointer (some ⟨R,0,none⟩),.int .i64 b] w (.tuple #[fr (loE b ps l),fr (hiE b ps l)]):=by
 unfold Kc;have HH:=hd_ H;have Hp:=hd_ hp;have Hl:=hd_ hl;have Hs:=hd_ hs;have HL:=hd_ L;obtain⟨a0,c0,a1,c1,a2,c2,S⟩:=H;obtain⟨k0,k1,k2,k3,-⟩:=Zdn S.ob;have ii:R<w.heap.size:=(Array.getElem?_eq_some_iff.1 S.ob).1;have Bf:=hd_ S.rp;have Bg:=hd_ S.rl;have NY:=hd_ (fun W (hW:Bw_ w W)=>Zrb W b (by omega) (HL.o.below hW));have DT:Hid (∀ W,Bw_ w W->W.cell? ⟨R,0,none⟩=some (.slice a0 ps.length c0)):=fun W hW=>by rw[hW.cell (p:=⟨R,0,none⟩) ii];exact k0
 have ey:Hid (∀ W,Bw_ w W->W.cell? ⟨R,1,none⟩=some (.slice a1 ps.length c1)):=fun W hW=>by rw[hW.cell (p:=⟨R,1,none⟩) ii];exact k1
 have Hv:Hid (True->(loE b ps l=loE b (ps.take ps.length) (l.take ps.length))/\hiE b ps l=hiE b (ps.take ps.length) (l.take ps.length)):=fun _=>by
  rw[List.take_length,List.take_of_length_le (by omega)];exact⟨rfl,rfl⟩
 obtain⟨vlo,hvlo⟩:∃ v,loE b ps l=v:=⟨_,rfl⟩;obtain⟨vhi,hvhi⟩:∃ v,hiE b ps l=v:=⟨_,rfl⟩;rw[hvlo,hvhi] at Hv ⊢;clear S L hs hp hl hvlo hvhi k2 k3;obtain⟨n,cg⟩:∃ n,ps.length=n:=⟨_,rfl⟩;have Hn:=hd_ cg;rw[cg] at hn DT ey Hv k0 k1;clear cg;unfold fr fv;go_enter Tryz.func124,Tryz.ntmps124;go_wp2_with fail;have Mp:Hid (EnI w ((w.alloc (.cells #[.string ⟨#[48]⟩,.string ⟨#[49]⟩] 101)).alloc (.cells #[.string ⟨#[48]⟩,.string ⟨#[49]⟩] 101)) 0 0):=by
  obtain⟨z1,z2⟩:=Zyk;have h1:=Zc0.new w 0;have h2:=Zc0.new (w.alloc (.cells #[.string (itx (0:Rat).num),.string (dec (0:Rat).den)] 101)) 0;rw[z1,z2] at h1 h2;refine⟨h1.below ((Below.refl _ _).alloc nr_ _),?_,((Below.refl _ _).alloc nr_ _).alloc (by simp) _⟩;have e:(w.alloc (.cells #[.string ⟨#[48]⟩,.string ⟨#[49]⟩] 101)).heap.size=w.heap.size+1:=by simp
  rw[e] at h2;exact h2
 have Dw:Hid (w.heap.size+2<=((w.alloc (.cells #[.string ⟨#[48]⟩,.string ⟨#[49]⟩] 101)).alloc (.cells #[.string ⟨#[48]⟩,.string ⟨#[49]⟩] 101)).heap.size):=by show _<=_;simp
 generalize (w.alloc (.cells #[.string ⟨#[48]⟩,.string ⟨#[49]⟩] 101)).alloc (.cells #[.string ⟨#[48]⟩,.string ⟨#[49]⟩] 101)=W0 at *;refine cm_ (NY.o _ Mp.o.bel) ?_;rintro e w1 ⟨rfl,hZ⟩;have dH:=hd_ (Mp.o.below hZ);have Nd:=hd_ (Nat.le_trans Dw.o hZ.size);have oI:=ey.o _ dH.o.bel;clear hZ Mp NY k0 k1 Dw;go_wp2_with fail
 go_loopw [25] (fun i wr=>∃ k:Nat,k<=n/\i = .int .i64 k/\Hid (EnI w wr (loE b (ps.take k) (l.take k)) (hiE b (ps.take k) (l.take k)))/\Hid (w.heap.size+2<=wr.heap.size)) (fun i _=>n-(intOf i).toNat)
 case atStart=>exact⟨0,Nat.zero_le _,rfl,by simpa [loE,hiE] using dH,Nd⟩
 case round =>
  obtain⟨k,hk,rfl,HE,Hz⟩:=hrel;clear dH Nd oI
  by_cases H7:k<n
  ·have gi:(k:Int)<n:=by omega
   have fA:k<ps.length:=by rw[Hn.o];exact H7
   have gX:k<l.length:=by rw[Hl.o];exact fA
   obtain⟨b0,o0,rfl,Gr,fH⟩:=Bf.o.open (by rw[Qw];omega);have eA:Hid (∀ W,Bw_ w W->W.cell? ⟨b0,o0+k,none⟩=some (.int .i64 ps[k])):=fun W hW=>by
    rw[hW.cell (p:=⟨b0,o0+k,none⟩) Gr];exact fH k _ (Yn ps k fA)
   obtain⟨b1,o1,rfl,hZ,gG⟩:=Bg.o.open (by rw[Kq];omega);obtain⟨x0,x1⟩:=Qb gG k (by rw[List.length_map];exact gX);rw[Qc l k gX] at x0 x1;rw[<- HE.o.bel.cell (p:=⟨b1,o1+k*2,none⟩) hZ] at x0;rw[<- HE.o.bel.cell (p:=⟨b1,o1+k*2+1,none⟩) hZ] at x1;have ay:IntKind.i64.wrap ((k:Int)+1)=((k+1:Nat):Int):=by rw[<- Int.natCast_succ];exact iw_ _ (by omega)
   have gZ:=hd_ (fun W=>Zos W l[k]);have gR:=hd_ (Znq b ps l k Hl.o fA gX);have EV:=hd_ (Zpw (show b<=1056 by omega) Hp.o Hl.o Hs.o k (Nat.le_of_lt fA));have DF:=hd_ (Hs.o l[k] (List.getElem_mem gX));obtain⟨q,hq,Gv⟩:=Hp.o _ (List.getElem_mem fA);have bQ:=hd_ (Qe5 (p:=ps[k]) (Hp.o _ (List.getElem_mem fA)) (show b<=1056 by omega));have iJ:=hd_ (fun W (hW:Bw_ w W) (hz:l[k].num≠0)=>Qci W R ps l B b k (HH.o.below hW) Hl.o (by rw[Hn.o];omega) fA gX (Hp.o _ (List.getElem_mem fA)) hz hb hB (HL.o.below hW));have Hq:=hd_ hq;have mr:=hd_ Gv;have nQ:1+k*(D+356)<=65700:=by
    have:k*(D+356)<=100*656:=Nat.mul_le_mul (by omega) (by omega)
    omega
   clear fH gG hq Gv;unfold fr fv at gZ;unfold qs at x0 x1;simp only at x0 x1;generalize l[k]=c at *;generalize ps[k]=pk at *;have Ci:=hd_ (show b<=1000 by omega)
   by_cases hz:c.num=0
   ·have fH:c=0:=Rat.num_eq_zero.1 hz;have Bq:loE b (ps.take (k+1)) (l.take (k+1))=loE b (ps.take k) (l.take k)/\hiE b (ps.take (k+1)) (l.take (k+1))=hiE b (ps.take k) (l.take k):=by
     obtain⟨e1,e2⟩:=Zxf b pk;have:=gR.o
     rw[fH,e1,e2,Rat.add_zero,Rat.add_zero] at this;exact this
    have BE:=hd_ Bq;rw[hz] at gZ x0;have J7:=hd_ (HE.o.below ((Below.refl _ _).alloc nr_ (.cells #[.string (itx 0),.string (dec c.den)] 101)));have JO:Hid (w.heap.size+2<=(wr.alloc (.cells #[.string (itx 0),.string (dec c.den)] 101)).heap.size):=by show _<=_;simp;have:=Hz.o;omega
    have k8:=Ka (heap_alloc_new wr (.cells #[.string (itx 0),.string (dec c.den)] 101));clear Bq iJ gR EV DF bQ Hq mr eA fH hz;go_wp2_with fail;refine cm_ (gZ.o _) ?_;rintro e w2 ⟨rfl,HU⟩;have Eb:=hd_ (J7.o.below HU);have Dw:=hd_ (Nat.le_trans JO.o HU.size);clear HU gZ k8;go_wp2_with fail;refine⟨⟨k+1,by omega,by go_num,by rw[BE.o.1,BE.o.2];exact Eb,Dw⟩,by simp[intOf];omega⟩
   ·have o8:(c.num.sign==0)=false:=by
     rw[beq_eq_false_iff_ne];intro h;exact hz (Int.sign_eq_zero_iff_zero.1 h)
    have ej:=hd_ (fun W hW=>iJ.o W hW hz);have J7:=hd_ (HE.o.below ((Below.refl _ _).alloc nr_ (.cells #[.string (itx c.num),.string (dec c.den)] 101)));have JO:Hid (w.heap.size+2<=(wr.alloc (.cells #[.string (itx c.num),.string (dec c.den)] 101)).heap.size):=by show _<=_;simp;have:=Hz.o;omega
    have F8:=hd_ (Zc0.new wr c);obtain⟨g8,hg8⟩:∃ g8,g8=wr.heap.size:=⟨_,rfl⟩;have k8:=Ka (heap_alloc_new wr (.cells #[.string (itx c.num),.string (dec c.den)] 101));clear iJ hz;go_wp2_with fail;refine cm_ (gZ.o _) ?_;rintro e w2 ⟨rfl,HU⟩;have Eb:=hd_ (J7.o.below HU);have Dw:=hd_ (Nat.le_trans JO.o HU.size);have AR:=hd_ (F8.o.below HU);rw[<- hg8] at AR;have ML:w.heap.size+2<=g8:=by rw[hg8];exact Hz.o
    have nT:g8<w2.heap.size:=(Array.getElem?_eq_some_iff.1 AR.o).1;clear HU gZ k8 J7 JO F8;rw[<- hg8];have rI:=hd_ ML;have iK:=hd_ nT;clear x0 x1 hg8 ML nT;obtain⟨k0,k1,-,-⟩:=Ka AR.o;have q0:=NW.cell k0;have q1:=NW.cell k1;have gn:Nonempty (NW w2):=⟨⟨w2,Below.refl _ _⟩⟩;have I:Hid (Bw_ w2 w2.drew):=(Below.refl _ _).drew;go_wp2_with fail;clear k0 k1;refine RP.wp_region_tree 5 (.rd 1 0 (.rd 1 1 (.two 2 3 (.mv 3 (.mv 4 (.mv 5 .nil))) (.mv 2 (.mv 4 (.mv 5 .nil)))))) (fun w'=>∃ p:NW w2,w'=p.w) (by kernel_rfl) (by kernel_rfl) ?_ ?_
    ·exact⟨⟨_,I.o⟩,rfl⟩
    iterate 2 (refine RP.walkT_read ?_;simp only[Zbh,dz_,Zaj,tz_];go_big_quiet_step (fail);refine wq_ ?_)
    clear q0 q1 gn;refine RP.walkT_two ?_ ?_
    ·simp only[Zbh,dz_,Zaj,tz_];go_wp2_with fail;obtain⟨ga,DL⟩:∃ x,x=w2.heap.size:=⟨_,rfl⟩;have I3:Hid (Bw_ w2 (w2.alloc (.cells #[.string ⟨#[]⟩,.string ⟨#[]⟩] 101)).drew):=Qe ((Below.refl _ _).alloc nr_ _) 1;have N3:Hid ((w2.alloc (.cells #[.string ⟨#[]⟩,.string ⟨#[]⟩] 101)).drew.heap[ga]?=some (.cells #[.string ⟨#[]⟩,.string ⟨#[]⟩] 101 (0,0))):=by rw[DL];exact heap_alloc_new w2 _
     have Z3:Hid ((w2.alloc (.cells #[.string ⟨#[]⟩,.string ⟨#[]⟩] 101)).drew.heap.size=w2.heap.size+1):=by show _=_;simp
     rw[<- DL];have NJ:=hd_ DL;clear DL;generalize (w2.alloc (.cells #[.string ⟨#[]⟩,.string ⟨#[]⟩] 101)).drew=w3 at *;refine⟨⟨⟨_,I3.o⟩,rfl⟩,?_⟩;refine RP.walkT_move ?_;simp only[Zbh,dz_,Zaj,tz_];go_wp2_with fail;obtain⟨gb,El⟩:∃ x,x=w3.heap.size:=⟨_,rfl⟩;have I4:Hid (Bw_ w2 (w3.alloc (.cells #[.string ⟨#[]⟩,.string ⟨#[]⟩] 101))):=I3.o.alloc I3.o.size _;have N4:Hid ((w3.alloc (.cells #[.string ⟨#[]⟩,.string ⟨#[]⟩] 101)).heap[ga]?=some (.cells #[.string ⟨#[]⟩,.string ⟨#[]⟩] 101 (0,0))):=by
      show _=_
      rw[((Below.refl _ w3).alloc nr_ _).block ga (Array.getElem?_eq_some_iff.1 N3.o).1];exact N3.o
     have M4:Hid ((w3.alloc (.cells #[.string ⟨#[]⟩,.string ⟨#[]⟩] 101)).heap[gb]?=some (.cells #[.string ⟨#[]⟩,.string ⟨#[]⟩] 101 (0,0))):=by rw[El];exact heap_alloc_new w3 _
     have Fn:ga≠gb:=by have:=Z3.o;have:=NJ.o;omega
     have fR:w2.heap.size<=ga:=by have:=NJ.o;omega
     have DZ:w2.heap.size<=gb:=by have:=Z3.o;omega
     rw[<- El];clear N3 I3 El Z3;generalize w3.alloc (.cells #[.string ⟨#[]⟩,.string ⟨#[]⟩] 101)=w4 at *;have NA:=N4;have NB:=M4;have Em:=fR;have Ek:=DZ;have FJ:=hd_ Fn;clear N4 M4 fR DZ Fn;refine⟨⟨⟨_,I4.o⟩,rfl⟩,?_⟩;refine RP.walkT_move ?_;simp only[Zbh,dz_,Zaj,tz_];obtain⟨n0,n1,f0,f1⟩:=Ka NA.o;go_wp2_with fail;have I5:=hd_ ((I4.o.setCell (p:=⟨ga,0,none⟩) Em (.string (itx c.num))).setCell (p:=⟨ga,1,none⟩) Em (.string (dec c.den)));have Jj:Hid (Zc0 ((w4.setCell ⟨ga,0,none⟩ (.string (itx c.num))).setCell ⟨ga,1,none⟩ (.string (dec c.den))) ga c):=Zap NA.o;have FY:Hid (((w4.setCell ⟨ga,0,none⟩ (.string (itx c.num))).setCell ⟨ga,1,none⟩ (.string (dec c.den))).heap[gb]?=some (.cells #[.string ⟨#[]⟩,.string ⟨#[]⟩] 101 (0,0))):=by
      show _=_
      rw[Below.heap_setCell _ _ _ _ (Ne.symm FJ.o),Below.heap_setCell _ _ _ _ (Ne.symm FJ.o)];exact NB.o
     clear n0 n1 f0 f1 NA NB I4;generalize (w4.setCell ⟨ga,0,none⟩ (.string (itx c.num))).setCell ⟨ga,1,none⟩ (.string (dec c.den))=w5 at *;refine⟨⟨⟨_,I5.o⟩,rfl⟩,?_⟩;refine RP.walkT_move ?_;simp only[Zbh,dz_,Zaj,tz_];obtain⟨n0,n1,f0,f1⟩:=Ka FY.o;go_wp2_with fail;have I6:=hd_ ((I5.o.setCell (p:=⟨gb,0,none⟩) Ek (.string (itx c.num))).setCell (p:=⟨gb,1,none⟩) Ek (.string (dec c.den)));have AN:Hid (Zc0 ((w5.setCell ⟨gb,0,none⟩ (.string (itx c.num))).setCell ⟨gb,1,none⟩ (.string (dec c.den))) gb c):=Zap FY.o;have AQ:=hd_ (Jj.o.set FJ.o (.string (itx c.num)) (.string (dec c.den)));clear n0 n1 f0 f1 Jj FY I5;generalize (w5.setCell ⟨gb,0,none⟩ (.string (itx c.num))).setCell ⟨gb,1,none⟩ (.string (dec c.den))=w6 at *;have ei:=hd_ (Eb.o.below I6.o);have Jn:=hd_ (AR.o.below I6.o);have DL:w.heap.size+2<=ga:=by have:=Dw.o;omega
     have El:w.heap.size+2<=gb:=by have:=Dw.o;omega
     have mJ:Hid (g8≠ga):=by have:=iK.o;show _≠_;omega
     have mH:Hid (g8≠gb):=by have:=iK.o;show _≠_;omega
     have aW:=hd_ (Nat.le_trans Dw.o I6.o.size);clear Eb AR I6 Em Ek Dw iK;simp only[RP.walkT];have lz:=DT.o w6 ei.o.bel;have cp:=eA.o w6 ei.o.bel
     by_cases h2:pk=2
     ·have JL:(pk != 2)=false:=by rw[h2];rfl
      have fK:Hid (c=c*xE pk b/\Sm (D+355) c):=⟨by rw[h2];unfold xE;rw[if_pos rfl,Rat.mul_one],DF.o.le (by omega)⟩;have fJ:Hid (c=c*yE pk b/\Sm (D+355) c):=⟨by rw[h2];unfold yE;rw[if_pos rfl,Rat.mul_one],DF.o.le (by omega)⟩;clear ej;obtain⟨k0,k1,-,-⟩:=Ka ei.o.e0;obtain⟨k2,k3,-,-⟩:=Ka ei.o.e1;obtain⟨k4,k5,-,-⟩:=Ka AQ.o;obtain⟨k6,k7,-,-⟩:=Ka AN.o;have q0:=NW.cell k0;have q1:=NW.cell k1;have q2:=NW.cell k2;have q3:=NW.cell k3;have q4:=NW.cell k4;have q5:=NW.cell k5;have q6:=NW.cell k6;have q7:=NW.cell k7;have gn:Nonempty (NW w6):=⟨⟨w6,Below.refl _ _⟩⟩;have I:Hid (Bw_ w6 w6.drew):=(Below.refl _ _).drew;have FO:=hd_ (fun X (hX:Bw_ w6 X)=>HL.o.below (ei.o.bel.trans (hX.mono ei.o.bel.size)));have dx:=hd_ (fun X hX=>Zk5 X c c (D+355) (D+355) fK.o.2 fJ.o.2 (by omega) (FO.o X hX));have ew:=hd_ (fun X hX=>Zk6 X c c (D+355) (D+355) fK.o.2 fJ.o.2 (by omega) (FO.o X hX));have GC:=hd_ (fun X hX=>Zyj X _ _ _ _ EV.o.1 (Zhr fK.o.2 fJ.o.2) (by omega) (FO.o X hX));have GS:=hd_ (fun X hX=>Zyj X _ _ _ _ EV.o.2 (Zhs fK.o.2 fJ.o.2) (by omega) (FO.o X hX));have Fz:loE b (ps.take k) (l.take k)+Zix c c=loE b (ps.take (k+1)) (l.take (k+1)):=by first | (rw[gR.o.1];done) | (rw[gR.o.1,<- fK.o.1,<- fJ.o.1];done)
      have Fy:hiE b (ps.take k) (l.take k)+Ziy c c=hiE b (ps.take (k+1)) (l.take (k+1)):=by first | (rw[gR.o.2];done) | (rw[gR.o.2,<- fK.o.1,<- fJ.o.1];done)
      rw[Fz] at GC;rw[Fy] at GS;clear Fz Fy FO;unfold fr fv at dx ew GC GS;go_wp2_with fail;clear k0 k1 k2 k3 k4 k5 k6 k7;refine wn_ 10 [(1,0),(1,1),(1,2),(1,5),(1,6),(1,7),(0,3),(0,4),(0,8),(0,9),(0,10),(0,11)] I ?_;iterate 6 (refine wr_ rfl ?_;go_big_quiet_step (fail);refine wq_ ?_)
      clear q0 q1 q2 q3 q4 q5 q6 q7 gn;refine wm_ rfl ?_;go_wp2_with fail;refine cm_ (dx.o _ I.o) ?_;rintro e x1 ⟨rfl,hbx⟩;have J1:Hid (Bw_ w6 x1):=I.o.trans (hbx.mono I.o.size);clear hbx I dx;go_wp2_with fail;refine⟨⟨⟨_,J1.o⟩,rfl⟩,?_⟩;refine wm_ rfl ?_;go_wp2_with fail;refine cm_ (GC.o _ J1.o) ?_;rintro e x2 ⟨rfl,hbx⟩;have J2:Hid (Bw_ w6 x2):=J1.o.trans (hbx.mono J1.o.size);clear hbx J1 GC;go_wp2_with fail;refine⟨⟨⟨_,J2.o⟩,rfl⟩,?_⟩;refine wm_ rfl ?_;go_wp2_with fail;refine cm_ (ew.o _ J2.o) ?_;rintro e x3 ⟨rfl,hbx⟩;have J3:Hid (Bw_ w6 x3):=J2.o.trans (hbx.mono J2.o.size);clear hbx J2 ew;go_wp2_with fail;refine⟨⟨⟨_,J3.o⟩,rfl⟩,?_⟩;refine wm_ rfl ?_;go_wp2_with fail;refine cm_ (GS.o _ J3.o) ?_;rintro e x4 ⟨rfl,hbx⟩;have J4:Hid (Bw_ w6 x4):=J3.o.trans (hbx.mono J3.o.size);clear hbx J3 GS;go_wp2_with fail;refine⟨⟨⟨_,J4.o⟩,rfl⟩,?_⟩;have eS:=hd_ (ei.o.below J4.o);have cM:=hd_ (Nat.le_trans aW.o J4.o.size);obtain⟨k0,k1,f0,f1⟩:=Ka eS.o.e0;obtain⟨k2,k3,f2,f3⟩:=Ka eS.o.e1;have Cq:=hd_ (eS.o.put (loE b (ps.take (k+1)) (l.take (k+1))) (hiE b (ps.take (k+1)) (l.take (k+1))));have cN:Hid (w.heap.size+2<=(Zp x4 w.heap.size (loE b (ps.take (k+1)) (l.take (k+1))) (hiE b (ps.take (k+1)) (l.take (k+1)))).heap.size):=by
       show _<=_
       unfold Zp;rw[World.size_setCell,World.size_setCell,World.size_setCell,World.size_setCell];exact cM.o
      unfold Zp at Cq cN;clear eS J4 cM;refine wm_ rfl ?_;go_wp2_with fail;refine wm_ rfl ?_;go_wp2_with fail;simp only[RP.walkR];go_wp2_with fail;refine⟨⟨k+1,by omega,by go_num,Cq,cN⟩,by simp[intOf];omega⟩
     ·have JL:(pk != 2)=true:=by rw[bne_iff_ne];exact h2
      have O':(pk==2)=false:=by rw[beq_eq_false_iff_ne];exact h2
      have fK:Hid (c*xE pk b=c*xE pk b/\Sm (D+355) (c*xE pk b)):=⟨rfl,DF.o.mul bQ.o.1⟩;have fJ:Hid (c*yE pk b=c*yE pk b/\Sm (D+355) (c*yE pk b)):=⟨rfl,DF.o.mul bQ.o.2⟩;have ES:lgN pk b+2<2^K10/\2^b+1<2^K10:=by
       rw[Hq.o];exact Qb7 mr.o Ci.o
      have EB:=hd_ (fun W (hW:Bw_ w W)=>Qg3 W (lgN pk b) (2^b) (by omega) ES.2 (Nat.two_pow_pos b) (HL.o.below hW));have DR:=hd_ (fun W (hW:Bw_ w W)=>Qg3 W (lgN pk b+1) (2^b) (by omega) ES.2 (Nat.two_pow_pos b) (HL.o.below hW));have ef:=hd_ (fun W (hW:Bw_ w W)=>Qbk W (lgN pk b) 1 K10 (by decide) (by omega) (Nat.one_lt_two_pow (by decide)) (HL.o.below hW));rw[Zt] at ef;have Bl:mkRat ((lgN pk b:Nat):Int) (2^b)=xE pk b:=by unfold xE;rw[if_neg h2]
      have iU:mkRat ((lgN pk b+1:Nat):Int) (2^b)=yE pk b:=by unfold yE;rw[if_neg h2]
      rw[Bl] at EB;rw[iU] at DR;have dw:=hd_ (fun W (hW:Bw_ w W)=>Qe0 W c (xE pk b) D 355 DF.o bQ.o.1 (by omega) (HL.o.below hW));have du:=hd_ (fun W (hW:Bw_ w W)=>Qe0 W c (yE pk b) D 355 DF.o bQ.o.2 (by omega) (HL.o.below hW));clear ES Bl iU h2;unfold fr fv at EB DR dw du;go_wp2_with fail;refine cm_ (ej.o _ ei.o.bel) ?_;rintro e w7 ⟨rfl,hbx⟩;have AL:=hd_ (ei.o.below hbx);have Ji:=hd_ (AQ.o.below hbx);have Jg:=hd_ (AN.o.below hbx);have Jm:=hd_ (Jn.o.below hbx);have aV:=hd_ (Nat.le_trans aW.o hbx.size);clear hbx ej ei AQ AN Jn aW lz cp;go_wp2_with fail;refine cm_ (EB.o _ AL.o.bel) ?_;rintro e w8 ⟨rfl,hbx⟩;have Gd:=hd_ (hbx.alloc hbx.size (.cells #[.string (itx (xE pk b).num),.string (dec (xE pk b).den)] 101));have AK:=hd_ (AL.o.below Gd.o);have Jh:=hd_ (Ji.o.below Gd.o);have Jf:=hd_ (Jg.o.below Gd.o);have Jl:=hd_ (Jm.o.below Gd.o);have cO:=hd_ (Nat.le_trans aV.o Gd.o.size);have FX:=hd_ (Zc0.new w8 (xE pk b));have Iq:=hd_ (Nat.le_trans aV.o hbx.size);clear hbx Gd AL Ji Jg Jm aV EB;go_wp2_with fail;generalize w8.alloc (.cells #[.string (itx (xE pk b).num),.string (dec (xE pk b).den)] 101)=w9 at *;generalize w8.heap.size=gx at *;refine cm_ (ef.o _ AK.o.bel) ?_;rintro e w10 ⟨rfl,hbx⟩;have dG:=hd_ (AK.o.below hbx);have Cz:=hd_ (Jh.o.below hbx);have Cx:=hd_ (Jf.o.below hbx);have CB:=hd_ (Jl.o.below hbx);have Cv:=hd_ (FX.o.below hbx);have cQ:=hd_ (Nat.le_trans cO.o hbx.size);clear hbx AK Jh Jf Jl FX cO ef;go_wp2_with fail;refine cm_ (DR.o _ dG.o.bel) ?_;rintro e w11 ⟨rfl,hbx⟩;have Gd:=hd_ (hbx.alloc hbx.size (.cells #[.string (itx (yE pk b).num),.string (dec (yE pk b).den)] 101));have Fe:=hd_ (dG.o.below Gd.o);have Cy:=hd_ (Cz.o.below Gd.o);have Cw:=hd_ (Cx.o.below Gd.o);have CA:=hd_ (CB.o.below Gd.o);have Cu:=hd_ (Cv.o.below Gd.o);have Ct:=hd_ (Zc0.new w11 (yE pk b));have cP:=hd_ (Nat.le_trans cQ.o Gd.o.size);obtain⟨k0,k1,-,-⟩:=Ka CA.o;obtain⟨k2,k3,-,-⟩:=Ka Cu.o;obtain⟨k4,k5,-,-⟩:=Ka Ct.o;have q0:=NW.cell k0;have q1:=NW.cell k1;have q2:=NW.cell k2;have q3:=NW.cell k3;have q4:=NW.cell k4;have q5:=NW.cell k5;clear hbx Gd dG Cz Cx CB Cv cQ DR k0 k1 k2 k3 k4 k5;go_wp2_with fail;generalize w11.alloc (.cells #[.string (itx (yE pk b).num),.string (dec (yE pk b).den)] 101)=w12 at *;generalize w11.heap.size=gy at *;have gn:Nonempty (NW w12):=⟨⟨w12,Below.refl _ _⟩⟩;have I:Hid (Bw_ w12 w12.drew):=(Below.refl _ _).drew;refine wn_ 6 [(1,0),(1,1),(1,3),(1,4),(0,2),(0,5),(0,6),(0,7)] I ?_;iterate 4 (refine wr_ rfl ?_;go_big_quiet_step (fail);refine wq_ ?_)
      clear gn q0 q1 q2 q3 q4 q5;refine wm_ rfl ?_;go_wp2_with fail;refine cm_ (dw.o _ (Fe.o.bel.trans (I.o.mono Fe.o.bel.size))) ?_;rintro e y1 ⟨rfl,hbx⟩;have J1:Hid (Bw_ w12 y1):=I.o.trans (hbx.mono I.o.size);clear hbx I dw;go_wp2_with fail;refine⟨⟨⟨_,J1.o⟩,rfl⟩,?_⟩;refine wm_ rfl ?_;go_wp2_with fail;refine cm_ (du.o _ (Fe.o.bel.trans (J1.o.mono Fe.o.bel.size))) ?_;rintro e y2 ⟨rfl,hbx⟩;have J2:Hid (Bw_ w12 y2):=J1.o.trans (hbx.mono J1.o.size);clear hbx J1 du;go_wp2_with fail;refine⟨⟨⟨_,J2.o⟩,rfl⟩,?_⟩;have j':=hd_ (Fe.o.below J2.o);have AP:=hd_ (Cy.o.below J2.o);have Je:=hd_ (Cw.o.below J2.o);have IW:=hd_ (Nat.le_trans cP.o J2.o.size);obtain⟨k0,k1,f0,f1⟩:=Ka AP.o;have Jk:=hd_ (AP.o.put (c*xE pk b));have AO:=hd_ (Je.o.set (Ne.symm FJ.o) (.string (itx (c*xE pk b).num)) (.string (dec (c*xE pk b).den)));have Cr:=hd_ (j'.o.set DL (.string (itx (c*xE pk b).num)) (.string (dec (c*xE pk b).den)));have IX:Hid (w.heap.size+2<=((y2.setCell ⟨ga,0,none⟩ (.string (itx (c*xE pk b).num))).setCell ⟨ga,1,none⟩ (.string (dec (c*xE pk b).den))).heap.size):=by
       show _<=_
       rw[World.size_setCell,World.size_setCell];exact IW.o
      clear Fe Cy Cw CA Cu Ct cP J2 j' AP Je IW;refine wm_ rfl ?_;go_wp2_with fail;generalize (y2.setCell ⟨ga,0,none⟩ (.string (itx (c*xE pk b).num))).setCell ⟨ga,1,none⟩ (.string (dec (c*xE pk b).den))=y3 at *;clear k0 k1 f0 f1;obtain⟨k0,k1,f0,f1⟩:=Ka AO.o;have MB:=hd_ (Jk.o.set FJ.o (.string (itx (c*yE pk b).num)) (.string (dec (c*yE pk b).den)));have MA:=hd_ (AO.o.put (c*yE pk b));have FQ:=hd_ (Cr.o.set El (.string (itx (c*yE pk b).num)) (.string (dec (c*yE pk b).den)));have aX:Hid (w.heap.size+2<=((y3.setCell ⟨gb,0,none⟩ (.string (itx (c*yE pk b).num))).setCell ⟨gb,1,none⟩ (.string (dec (c*yE pk b).den))).heap.size):=by
       show _<=_
       rw[World.size_setCell,World.size_setCell];exact IX.o
      clear Jk AO Cr IX;refine wm_ rfl ?_;go_wp2_with fail;generalize (y3.setCell ⟨gb,0,none⟩ (.string (itx (c*yE pk b).num))).setCell ⟨gb,1,none⟩ (.string (dec (c*yE pk b).den))=y4 at *;clear k0 k1 f0 f1;simp only[RP.walkR];generalize hXc:c*xE pk b=vx at *;generalize hYc:c*yE pk b=vy at *;have fK:=hd_ (show c*xE pk b=vx/\Sm (D+355) vx from ⟨hXc,fK.o.2⟩);have fJ:=hd_ (show c*yE pk b=vy/\Sm (D+355) vy from ⟨hYc,fJ.o.2⟩);clear hXc hYc;obtain⟨k0,k1,-,-⟩:=Ka FQ.o.e0;obtain⟨k2,k3,-,-⟩:=Ka FQ.o.e1;obtain⟨k4,k5,-,-⟩:=Ka MB.o;obtain⟨k6,k7,-,-⟩:=Ka MA.o;have q0:=NW.cell k0;have q1:=NW.cell k1;have q2:=NW.cell k2;have q3:=NW.cell k3;have q4:=NW.cell k4;have q5:=NW.cell k5;have q6:=NW.cell k6;have q7:=NW.cell k7;have gn:Nonempty (NW y4):=⟨⟨y4,Below.refl _ _⟩⟩;have I:Hid (Bw_ y4 y4.drew):=(Below.refl _ _).drew;have FO:=hd_ (fun X (hX:Bw_ y4 X)=>HL.o.below (FQ.o.bel.trans (hX.mono FQ.o.bel.size)));have dx:=hd_ (fun X hX=>Zk5 X vx vy (D+355) (D+355) fK.o.2 fJ.o.2 (by omega) (FO.o X hX));have ew:=hd_ (fun X hX=>Zk6 X vx vy (D+355) (D+355) fK.o.2 fJ.o.2 (by omega) (FO.o X hX));have GC:=hd_ (fun X hX=>Zyj X _ _ _ _ EV.o.1 (Zhr fK.o.2 fJ.o.2) (by omega) (FO.o X hX));have GS:=hd_ (fun X hX=>Zyj X _ _ _ _ EV.o.2 (Zhs fK.o.2 fJ.o.2) (by omega) (FO.o X hX));have Fz:loE b (ps.take k) (l.take k)+Zix vx vy=loE b (ps.take (k+1)) (l.take (k+1)):=by first | (rw[gR.o.1];done) | (rw[gR.o.1,<- fK.o.1,<- fJ.o.1];done)
      have Fy:hiE b (ps.take k) (l.take k)+Ziy vx vy=hiE b (ps.take (k+1)) (l.take (k+1)):=by first | (rw[gR.o.2];done) | (rw[gR.o.2,<- fK.o.1,<- fJ.o.1];done)
      rw[Fz] at GC;rw[Fy] at GS;clear Fz Fy FO;unfold fr fv at dx ew GC GS;go_wp2_with fail;clear k0 k1 k2 k3 k4 k5 k6 k7;refine wn_ 10 [(1,0),(1,1),(1,2),(1,5),(1,6),(1,7),(0,3),(0,4),(0,8),(0,9),(0,10),(0,11)] I ?_;iterate 6 (refine wr_ rfl ?_;go_big_quiet_step (fail);refine wq_ ?_)
      clear q0 q1 q2 q3 q4 q5 q6 q7 gn;refine wm_ rfl ?_;go_wp2_with fail;refine cm_ (dx.o _ I.o) ?_;rintro e x1 ⟨rfl,hbx⟩;have J1:Hid (Bw_ y4 x1):=I.o.trans (hbx.mono I.o.size);clear hbx I dx;go_wp2_with fail;refine⟨⟨⟨_,J1.o⟩,rfl⟩,?_⟩;refine wm_ rfl ?_;go_wp2_with fail;refine cm_ (GC.o _ J1.o) ?_;rintro e x2 ⟨rfl,hbx⟩;have J2:Hid (Bw_ y4 x2):=J1.o.trans (hbx.mono J1.o.size);clear hbx J1 GC;go_wp2_with fail;refine⟨⟨⟨_,J2.o⟩,rfl⟩,?_⟩;refine wm_ rfl ?_;go_wp2_with fail;refine cm_ (ew.o _ J2.o) ?_;rintro e x3 ⟨rfl,hbx⟩;have J3:Hid (Bw_ y4 x3):=J2.o.trans (hbx.mono J2.o.size);clear hbx J2 ew;go_wp2_with fail;refine⟨⟨⟨_,J3.o⟩,rfl⟩,?_⟩;refine wm_ rfl ?_;go_wp2_with fail;refine cm_ (GS.o _ J3.o) ?_;rintro e x4 ⟨rfl,hbx⟩;have J4:Hid (Bw_ y4 x4):=J3.o.trans (hbx.mono J3.o.size);clear hbx J3 GS;go_wp2_with fail;refine⟨⟨⟨_,J4.o⟩,rfl⟩,?_⟩;have eS:=hd_ (FQ.o.below J4.o);have cM:=hd_ (Nat.le_trans aX.o J4.o.size);obtain⟨k0,k1,f0,f1⟩:=Ka eS.o.e0;obtain⟨k2,k3,f2,f3⟩:=Ka eS.o.e1;have Cq:=hd_ (eS.o.put (loE b (ps.take (k+1)) (l.take (k+1))) (hiE b (ps.take (k+1)) (l.take (k+1))));have cN:Hid (w.heap.size+2<=(Zp x4 w.heap.size (loE b (ps.take (k+1)) (l.take (k+1))) (hiE b (ps.take (k+1)) (l.take (k+1)))).heap.size):=by
       show _<=_
       unfold Zp;rw[World.size_setCell,World.size_setCell,World.size_setCell,World.size_setCell];exact cM.o
      unfold Zp at Cq cN;clear eS J4 cM;refine wm_ rfl ?_;go_wp2_with fail;refine wm_ rfl ?_;go_wp2_with fail;simp only[RP.walkR];go_wp2_with fail;refine⟨⟨k+1,by omega,by go_num,Cq,cN⟩,by simp[intOf];omega⟩
    ·simp only[Zbh,dz_,Zaj,tz_];go_wp2_with fail;obtain⟨gb,El⟩:∃ x,x=w2.heap.size:=⟨_,rfl⟩;have I3:Hid (Bw_ w2 (w2.alloc (.cells #[.string ⟨#[]⟩,.string ⟨#[]⟩] 101)).drew):=Qe ((Below.refl _ _).alloc nr_ _) 1;have N3:Hid ((w2.alloc (.cells #[.string ⟨#[]⟩,.string ⟨#[]⟩] 101)).drew.heap[gb]?=some (.cells #[.string ⟨#[]⟩,.string ⟨#[]⟩] 101 (0,0))):=by rw[El];exact heap_alloc_new w2 _
     have Z3:Hid ((w2.alloc (.cells #[.string ⟨#[]⟩,.string ⟨#[]⟩] 101)).drew.heap.size=w2.heap.size+1):=by show _=_;simp
     rw[<- El];have NI:=hd_ El;clear El;generalize (w2.alloc (.cells #[.string ⟨#[]⟩,.string ⟨#[]⟩] 101)).drew=w3 at *;refine⟨⟨⟨_,I3.o⟩,rfl⟩,?_⟩;refine RP.walkT_move ?_;simp only[Zbh,dz_,Zaj,tz_];go_wp2_with fail;obtain⟨ga,DL⟩:∃ x,x=w3.heap.size:=⟨_,rfl⟩;have I4:Hid (Bw_ w2 (w3.alloc (.cells #[.string ⟨#[]⟩,.string ⟨#[]⟩] 101))):=I3.o.alloc I3.o.size _;have N4:Hid ((w3.alloc (.cells #[.string ⟨#[]⟩,.string ⟨#[]⟩] 101)).heap[gb]?=some (.cells #[.string ⟨#[]⟩,.string ⟨#[]⟩] 101 (0,0))):=by
      show _=_
      rw[((Below.refl _ w3).alloc nr_ _).block gb (Array.getElem?_eq_some_iff.1 N3.o).1];exact N3.o
     have M4:Hid ((w3.alloc (.cells #[.string ⟨#[]⟩,.string ⟨#[]⟩] 101)).heap[ga]?=some (.cells #[.string ⟨#[]⟩,.string ⟨#[]⟩] 101 (0,0))):=by rw[DL];exact heap_alloc_new w3 _
     have Fn:gb≠ga:=by have:=Z3.o;have:=NI.o;omega
     have fR:w2.heap.size<=gb:=by have:=NI.o;omega
     have DZ:w2.heap.size<=ga:=by have:=Z3.o;omega
     rw[<- DL];clear N3 I3 DL Z3;generalize w3.alloc (.cells #[.string ⟨#[]⟩,.string ⟨#[]⟩] 101)=w4 at *;have NA:=M4;have NB:=N4;have Em:=DZ;have Ek:=fR;have FJ:=hd_ (Ne.symm Fn);clear N4 M4 fR DZ Fn;refine⟨⟨⟨_,I4.o⟩,rfl⟩,?_⟩;refine RP.walkT_move ?_;simp only[Zbh,dz_,Zaj,tz_];obtain⟨n0,n1,f0,f1⟩:=Ka NA.o;go_wp2_with fail;have I5:=hd_ ((I4.o.setCell (p:=⟨ga,0,none⟩) Em (.string (itx c.num))).setCell (p:=⟨ga,1,none⟩) Em (.string (dec c.den)));have Jj:Hid (Zc0 ((w4.setCell ⟨ga,0,none⟩ (.string (itx c.num))).setCell ⟨ga,1,none⟩ (.string (dec c.den))) ga c):=Zap NA.o;have FY:Hid (((w4.setCell ⟨ga,0,none⟩ (.string (itx c.num))).setCell ⟨ga,1,none⟩ (.string (dec c.den))).heap[gb]?=some (.cells #[.string ⟨#[]⟩,.string ⟨#[]⟩] 101 (0,0))):=by
      show _=_
      rw[Below.heap_setCell _ _ _ _ (Ne.symm FJ.o),Below.heap_setCell _ _ _ _ (Ne.symm FJ.o)];exact NB.o
     clear n0 n1 f0 f1 NA NB I4;generalize (w4.setCell ⟨ga,0,none⟩ (.string (itx c.num))).setCell ⟨ga,1,none⟩ (.string (dec c.den))=w5 at *;refine⟨⟨⟨_,I5.o⟩,rfl⟩,?_⟩;refine RP.walkT_move ?_;simp only[Zbh,dz_,Zaj,tz_];obtain⟨n0,n1,f0,f1⟩:=Ka FY.o;go_wp2_with fail;have I6:=hd_ ((I5.o.setCell (p:=⟨gb,0,none⟩) Ek (.string (itx c.num))).setCell (p:=⟨gb,1,none⟩) Ek (.string (dec c.den)));have AN:Hid (Zc0 ((w5.setCell ⟨gb,0,none⟩ (.string (itx c.num))).setCell ⟨gb,1,none⟩ (.string (dec c.den))) gb c):=Zap FY.o;have AQ:=hd_ (Jj.o.set FJ.o (.string (itx c.num)) (.string (dec c.den)));clear n0 n1 f0 f1 Jj FY I5;generalize (w5.setCell ⟨gb,0,none⟩ (.string (itx c.num))).setCell ⟨gb,1,none⟩ (.string (dec c.den))=w6 at *;have ei:=hd_ (Eb.o.below I6.o);have Jn:=hd_ (AR.o.below I6.o);have DL:w.heap.size+2<=ga:=by have:=Dw.o;omega
     have El:w.heap.size+2<=gb:=by have:=Dw.o;omega
     have mJ:Hid (g8≠ga):=by have:=iK.o;show _≠_;omega
     have mH:Hid (g8≠gb):=by have:=iK.o;show _≠_;omega
     have aW:=hd_ (Nat.le_trans Dw.o I6.o.size);clear Eb AR I6 Em Ek Dw iK;simp only[RP.walkT];have lz:=DT.o w6 ei.o.bel;have cp:=eA.o w6 ei.o.bel
     by_cases h2:pk=2
     ·have JL:(pk != 2)=false:=by rw[h2];rfl
      have fK:Hid (c=c*xE pk b/\Sm (D+355) c):=⟨by rw[h2];unfold xE;rw[if_pos rfl,Rat.mul_one],DF.o.le (by omega)⟩;have fJ:Hid (c=c*yE pk b/\Sm (D+355) c):=⟨by rw[h2];unfold yE;rw[if_pos rfl,Rat.mul_one],DF.o.le (by omega)⟩;clear ej;obtain⟨k0,k1,-,-⟩:=Ka ei.o.e0;obtain⟨k2,k3,-,-⟩:=Ka ei.o.e1;obtain⟨k4,k5,-,-⟩:=Ka AQ.o;obtain⟨k6,k7,-,-⟩:=Ka AN.o;have q0:=NW.cell k0;have q1:=NW.cell k1;have q2:=NW.cell k2;have q3:=NW.cell k3;have q4:=NW.cell k4;have q5:=NW.cell k5;have q6:=NW.cell k6;have q7:=NW.cell k7;have gn:Nonempty (NW w6):=⟨⟨w6,Below.refl _ _⟩⟩;have I:Hid (Bw_ w6 w6.drew):=(Below.refl _ _).drew;have FO:=hd_ (fun X (hX:Bw_ w6 X)=>HL.o.below (ei.o.bel.trans (hX.mono ei.o.bel.size)));have dx:=hd_ (fun X hX=>Zk5 X c c (D+355) (D+355) fK.o.2 fJ.o.2 (by omega) (FO.o X hX));have ew:=hd_ (fun X hX=>Zk6 X c c (D+355) (D+355) fK.o.2 fJ.o.2 (by omega) (FO.o X hX));have GC:=hd_ (fun X hX=>Zyj X _ _ _ _ EV.o.1 (Zhr fK.o.2 fJ.o.2) (by omega) (FO.o X hX));have GS:=hd_ (fun X hX=>Zyj X _ _ _ _ EV.o.2 (Zhs fK.o.2 fJ.o.2) (by omega) (FO.o X hX));have Fz:loE b (ps.take k) (l.take k)+Zix c c=loE b (ps.take (k+1)) (l.take (k+1)):=by first | (rw[gR.o.1];done) | (rw[gR.o.1,<- fK.o.1,<- fJ.o.1];done)
      have Fy:hiE b (ps.take k) (l.take k)+Ziy c c=hiE b (ps.take (k+1)) (l.take (k+1)):=by first | (rw[gR.o.2];done) | (rw[gR.o.2,<- fK.o.1,<- fJ.o.1];done)
      rw[Fz] at GC;rw[Fy] at GS;clear Fz Fy FO;unfold fr fv at dx ew GC GS;go_wp2_with fail;clear k0 k1 k2 k3 k4 k5 k6 k7;refine wn_ 10 [(1,0),(1,1),(1,2),(1,5),(1,6),(1,7),(0,3),(0,4),(0,8),(0,9),(0,10),(0,11)] I ?_;iterate 6 (refine wr_ rfl ?_;go_big_quiet_step (fail);refine wq_ ?_)
      clear q0 q1 q2 q3 q4 q5 q6 q7 gn;refine wm_ rfl ?_;go_wp2_with fail;refine cm_ (dx.o _ I.o) ?_;rintro e x1 ⟨rfl,hbx⟩;have J1:Hid (Bw_ w6 x1):=I.o.trans (hbx.mono I.o.size);clear hbx I dx;go_wp2_with fail;refine⟨⟨⟨_,J1.o⟩,rfl⟩,?_⟩;refine wm_ rfl ?_;go_wp2_with fail;refine cm_ (GC.o _ J1.o) ?_;rintro e x2 ⟨rfl,hbx⟩;have J2:Hid (Bw_ w6 x2):=J1.o.trans (hbx.mono J1.o.size);clear hbx J1 GC;go_wp2_with fail;refine⟨⟨⟨_,J2.o⟩,rfl⟩,?_⟩;refine wm_ rfl ?_;go_wp2_with fail;refine cm_ (ew.o _ J2.o) ?_;rintro e x3 ⟨rfl,hbx⟩;have J3:Hid (Bw_ w6 x3):=J2.o.trans (hbx.mono J2.o.size);clear hbx J2 ew;go_wp2_with fail;refine⟨⟨⟨_,J3.o⟩,rfl⟩,?_⟩;refine wm_ rfl ?_;go_wp2_with fail;refine cm_ (GS.o _ J3.o) ?_;rintro e x4 ⟨rfl,hbx⟩;have J4:Hid (Bw_ w6 x4):=J3.o.trans (hbx.mono J3.o.size);clear hbx J3 GS;go_wp2_with fail;refine⟨⟨⟨_,J4.o⟩,rfl⟩,?_⟩;have eS:=hd_ (ei.o.below J4.o);have cM:=hd_ (Nat.le_trans aW.o J4.o.size);obtain⟨k0,k1,f0,f1⟩:=Ka eS.o.e0;obtain⟨k2,k3,f2,f3⟩:=Ka eS.o.e1;have Cq:=hd_ (eS.o.put (loE b (ps.take (k+1)) (l.take (k+1))) (hiE b (ps.take (k+1)) (l.take (k+1))));have cN:Hid (w.heap.size+2<=(Zp x4 w.heap.size (loE b (ps.take (k+1)) (l.take (k+1))) (hiE b (ps.take (k+1)) (l.take (k+1)))).heap.size):=by
       show _<=_
       unfold Zp;rw[World.size_setCell,World.size_setCell,World.size_setCell,World.size_setCell];exact cM.o
      unfold Zp at Cq cN;clear eS J4 cM;refine wm_ rfl ?_;go_wp2_with fail;refine wm_ rfl ?_;go_wp2_with fail;simp only[RP.walkR];go_wp2_with fail;refine⟨⟨k+1,by omega,by go_num,Cq,cN⟩,by simp[intOf];omega⟩
     ·have JL:(pk != 2)=true:=by rw[bne_iff_ne];exact h2
      have O':(pk==2)=false:=by rw[beq_eq_false_iff_ne];exact h2
      have fK:Hid (c*xE pk b=c*xE pk b/\Sm (D+355) (c*xE pk b)):=⟨rfl,DF.o.mul bQ.o.1⟩;have fJ:Hid (c*yE pk b=c*yE pk b/\Sm (D+355) (c*yE pk b)):=⟨rfl,DF.o.mul bQ.o.2⟩;have ES:lgN pk b+2<2^K10/\2^b+1<2^K10:=by
       rw[Hq.o];exact Qb7 mr.o Ci.o
      have EB:=hd_ (fun W (hW:Bw_ w W)=>Qg3 W (lgN pk b) (2^b) (by omega) ES.2 (Nat.two_pow_pos b) (HL.o.below hW));have DR:=hd_ (fun W (hW:Bw_ w W)=>Qg3 W (lgN pk b+1) (2^b) (by omega) ES.2 (Nat.two_pow_pos b) (HL.o.below hW));have ef:=hd_ (fun W (hW:Bw_ w W)=>Qbk W (lgN pk b) 1 K10 (by decide) (by omega) (Nat.one_lt_two_pow (by decide)) (HL.o.below hW));rw[Zt] at ef;have Bl:mkRat ((lgN pk b:Nat):Int) (2^b)=xE pk b:=by unfold xE;rw[if_neg h2]
      have iU:mkRat ((lgN pk b+1:Nat):Int) (2^b)=yE pk b:=by unfold yE;rw[if_neg h2]
      rw[Bl] at EB;rw[iU] at DR;have dw:=hd_ (fun W (hW:Bw_ w W)=>Qe0 W c (xE pk b) D 355 DF.o bQ.o.1 (by omega) (HL.o.below hW));have du:=hd_ (fun W (hW:Bw_ w W)=>Qe0 W c (yE pk b) D 355 DF.o bQ.o.2 (by omega) (HL.o.below hW));clear ES Bl iU h2;unfold fr fv at EB DR dw du;go_wp2_with fail;refine cm_ (ej.o _ ei.o.bel) ?_;rintro e w7 ⟨rfl,hbx⟩;have AL:=hd_ (ei.o.below hbx);have Ji:=hd_ (AQ.o.below hbx);have Jg:=hd_ (AN.o.below hbx);have Jm:=hd_ (Jn.o.below hbx);have aV:=hd_ (Nat.le_trans aW.o hbx.size);clear hbx ej ei AQ AN Jn aW lz cp;go_wp2_with fail;refine cm_ (EB.o _ AL.o.bel) ?_;rintro e w8 ⟨rfl,hbx⟩;have Gd:=hd_ (hbx.alloc hbx.size (.cells #[.string (itx (xE pk b).num),.string (dec (xE pk b).den)] 101));have AK:=hd_ (AL.o.below Gd.o);have Jh:=hd_ (Ji.o.below Gd.o);have Jf:=hd_ (Jg.o.below Gd.o);have Jl:=hd_ (Jm.o.below Gd.o);have cO:=hd_ (Nat.le_trans aV.o Gd.o.size);have FX:=hd_ (Zc0.new w8 (xE pk b));have Iq:=hd_ (Nat.le_trans aV.o hbx.size);clear hbx Gd AL Ji Jg Jm aV EB;go_wp2_with fail;generalize w8.alloc (.cells #[.string (itx (xE pk b).num),.string (dec (xE pk b).den)] 101)=w9 at *;generalize w8.heap.size=gx at *;refine cm_ (ef.o _ AK.o.bel) ?_;rintro e w10 ⟨rfl,hbx⟩;have dG:=hd_ (AK.o.below hbx);have Cz:=hd_ (Jh.o.below hbx);have Cx:=hd_ (Jf.o.below hbx);have CB:=hd_ (Jl.o.below hbx);have Cv:=hd_ (FX.o.below hbx);have cQ:=hd_ (Nat.le_trans cO.o hbx.size);clear hbx AK Jh Jf Jl FX cO ef;go_wp2_with fail;refine cm_ (DR.o _ dG.o.bel) ?_;rintro e w11 ⟨rfl,hbx⟩;have Gd:=hd_ (hbx.alloc hbx.size (.cells #[.string (itx (yE pk b).num),.string (dec (yE pk b).den)] 101));have Fe:=hd_ (dG.o.below Gd.o);have Cy:=hd_ (Cz.o.below Gd.o);have Cw:=hd_ (Cx.o.below Gd.o);have CA:=hd_ (CB.o.below Gd.o);have Cu:=hd_ (Cv.o.below Gd.o);have Ct:=hd_ (Zc0.new w11 (yE pk b));have cP:=hd_ (Nat.le_trans cQ.o Gd.o.size);obtain⟨k0,k1,-,-⟩:=Ka CA.o;obtain⟨k2,k3,-,-⟩:=Ka Cu.o;obtain⟨k4,k5,-,-⟩:=Ka Ct.o;have q0:=NW.cell k0;have q1:=NW.cell k1;have q2:=NW.cell k2;have q3:=NW.cell k3;have q4:=NW.cell k4;have q5:=NW.cell k5;clear hbx Gd dG Cz Cx CB Cv cQ DR k0 k1 k2 k3 k4 k5;go_wp2_with fail;generalize w11.alloc (.cells #[.string (itx (yE pk b).num),.string (dec (yE pk b).den)] 101)=w12 at *;generalize w11.heap.size=gy at *;have gn:Nonempty (NW w12):=⟨⟨w12,Below.refl _ _⟩⟩;have I:Hid (Bw_ w12 w12.drew):=(Below.refl _ _).drew;refine wn_ 6 [(1,0),(1,1),(1,3),(1,4),(0,2),(0,5),(0,6),(0,7)] I ?_;iterate 4 (refine wr_ rfl ?_;go_big_quiet_step (fail);refine wq_ ?_)
      clear gn q0 q1 q2 q3 q4 q5;refine wm_ rfl ?_;go_wp2_with fail;refine cm_ (dw.o _ (Fe.o.bel.trans (I.o.mono Fe.o.bel.size))) ?_;rintro e y1 ⟨rfl,hbx⟩;have J1:Hid (Bw_ w12 y1):=I.o.trans (hbx.mono I.o.size);clear hbx I dw;go_wp2_with fail;refine⟨⟨⟨_,J1.o⟩,rfl⟩,?_⟩;refine wm_ rfl ?_;go_wp2_with fail;refine cm_ (du.o _ (Fe.o.bel.trans (J1.o.mono Fe.o.bel.size))) ?_;rintro e y2 ⟨rfl,hbx⟩;have J2:Hid (Bw_ w12 y2):=J1.o.trans (hbx.mono J1.o.size);clear hbx J1 du;go_wp2_with fail;refine⟨⟨⟨_,J2.o⟩,rfl⟩,?_⟩;have j':=hd_ (Fe.o.below J2.o);have AP:=hd_ (Cy.o.below J2.o);have Je:=hd_ (Cw.o.below J2.o);have IW:=hd_ (Nat.le_trans cP.o J2.o.size);obtain⟨k0,k1,f0,f1⟩:=Ka AP.o;have Jk:=hd_ (AP.o.put (c*xE pk b));have AO:=hd_ (Je.o.set (Ne.symm FJ.o) (.string (itx (c*xE pk b).num)) (.string (dec (c*xE pk b).den)));have Cr:=hd_ (j'.o.set DL (.string (itx (c*xE pk b).num)) (.string (dec (c*xE pk b).den)));have IX:Hid (w.heap.size+2<=((y2.setCell ⟨ga,0,none⟩ (.string (itx (c*xE pk b).num))).setCell ⟨ga,1,none⟩ (.string (dec (c*xE pk b).den))).heap.size):=by
       show _<=_
       rw[World.size_setCell,World.size_setCell];exact IW.o
      clear Fe Cy Cw CA Cu Ct cP J2 j' AP Je IW;refine wm_ rfl ?_;go_wp2_with fail;generalize (y2.setCell ⟨ga,0,none⟩ (.string (itx (c*xE pk b).num))).setCell ⟨ga,1,none⟩ (.string (dec (c*xE pk b).den))=y3 at *;clear k0 k1 f0 f1;obtain⟨k0,k1,f0,f1⟩:=Ka AO.o;have MB:=hd_ (Jk.o.set FJ.o (.string (itx (c*yE pk b).num)) (.string (dec (c*yE pk b).den)));have MA:=hd_ (AO.o.put (c*yE pk b));have FQ:=hd_ (Cr.o.set El (.string (itx (c*yE pk b).num)) (.string (dec (c*yE pk b).den)));have aX:Hid (w.heap.size+2<=((y3.setCell ⟨gb,0,none⟩ (.string (itx (c*yE pk b).num))).setCell ⟨gb,1,none⟩ (.string (dec (c*yE pk b).den))).heap.size):=by
       show _<=_
       rw[World.size_setCell,World.size_setCell];exact IX.o
      clear Jk AO Cr IX;refine wm_ rfl ?_;go_wp2_with fail;generalize (y3.setCell ⟨gb,0,none⟩ (.string (itx (c*yE pk b).num))).setCell ⟨gb,1,none⟩ (.string (dec (c*yE pk b).den))=y4 at *;clear k0 k1 f0 f1;simp only[RP.walkR];generalize hXc:c*xE pk b=vx at *;generalize hYc:c*yE pk b=vy at *;have fK:=hd_ (show c*xE pk b=vx/\Sm (D+355) vx from ⟨hXc,fK.o.2⟩);have fJ:=hd_ (show c*yE pk b=vy/\Sm (D+355) vy from ⟨hYc,fJ.o.2⟩);clear hXc hYc;obtain⟨k0,k1,-,-⟩:=Ka FQ.o.e0;obtain⟨k2,k3,-,-⟩:=Ka FQ.o.e1;obtain⟨k4,k5,-,-⟩:=Ka MB.o;obtain⟨k6,k7,-,-⟩:=Ka MA.o;have q0:=NW.cell k0;have q1:=NW.cell k1;have q2:=NW.cell k2;have q3:=NW.cell k3;have q4:=NW.cell k4;have q5:=NW.cell k5;have q6:=NW.cell k6;have q7:=NW.cell k7;have gn:Nonempty (NW y4):=⟨⟨y4,Below.refl _ _⟩⟩;have I:Hid (Bw_ y4 y4.drew):=(Below.refl _ _).drew;have FO:=hd_ (fun X (hX:Bw_ y4 X)=>HL.o.below (FQ.o.bel.trans (hX.mono FQ.o.bel.size)));have dx:=hd_ (fun X hX=>Zk5 X vx vy (D+355) (D+355) fK.o.2 fJ.o.2 (by omega) (FO.o X hX));have ew:=hd_ (fun X hX=>Zk6 X vx vy (D+355) (D+355) fK.o.2 fJ.o.2 (by omega) (FO.o X hX));have GC:=hd_ (fun X hX=>Zyj X _ _ _ _ EV.o.1 (Zhr fK.o.2 fJ.o.2) (by omega) (FO.o X hX));have GS:=hd_ (fun X hX=>Zyj X _ _ _ _ EV.o.2 (Zhs fK.o.2 fJ.o.2) (by omega) (FO.o X hX));have Fz:loE b (ps.take k) (l.take k)+Zix vx vy=loE b (ps.take (k+1)) (l.take (k+1)):=by first | (rw[gR.o.1];done) | (rw[gR.o.1,<- fK.o.1,<- fJ.o.1];done)
      have Fy:hiE b (ps.take k) (l.take k)+Ziy vx vy=hiE b (ps.take (k+1)) (l.take (k+1)):=by first | (rw[gR.o.2];done) | (rw[gR.o.2,<- fK.o.1,<- fJ.o.1];done)
      rw[Fz] at GC;rw[Fy] at GS;clear Fz Fy FO;unfold fr fv at dx ew GC GS;go_wp2_with fail;clear k0 k1 k2 k3 k4 k5 k6 k7;refine wn_ 10 [(1,0),(1,1),(1,2),(1,5),(1,6),(1,7),(0,3),(0,4),(0,8),(0,9),(0,10),(0,11)] I ?_;iterate 6 (refine wr_ rfl ?_;go_big_quiet_step (fail);refine wq_ ?_)
      clear q0 q1 q2 q3 q4 q5 q6 q7 gn;refine wm_ rfl ?_;go_wp2_with fail;refine cm_ (dx.o _ I.o) ?_;rintro e x1 ⟨rfl,hbx⟩;have J1:Hid (Bw_ y4 x1):=I.o.trans (hbx.mono I.o.size);clear hbx I dx;go_wp2_with fail;refine⟨⟨⟨_,J1.o⟩,rfl⟩,?_⟩;refine wm_ rfl ?_;go_wp2_with fail;refine cm_ (GC.o _ J1.o) ?_;rintro e x2 ⟨rfl,hbx⟩;have J2:Hid (Bw_ y4 x2):=J1.o.trans (hbx.mono J1.o.size);clear hbx J1 GC;go_wp2_with fail;refine⟨⟨⟨_,J2.o⟩,rfl⟩,?_⟩;refine wm_ rfl ?_;go_wp2_with fail;refine cm_ (ew.o _ J2.o) ?_;rintro e x3 ⟨rfl,hbx⟩;have J3:Hid (Bw_ y4 x3):=J2.o.trans (hbx.mono J2.o.size);clear hbx J2 ew;go_wp2_with fail;refine⟨⟨⟨_,J3.o⟩,rfl⟩,?_⟩;refine wm_ rfl ?_;go_wp2_with fail;refine cm_ (GS.o _ J3.o) ?_;rintro e x4 ⟨rfl,hbx⟩;have J4:Hid (Bw_ y4 x4):=J3.o.trans (hbx.mono J3.o.size);clear hbx J3 GS;go_wp2_with fail;refine⟨⟨⟨_,J4.o⟩,rfl⟩,?_⟩;have eS:=hd_ (FQ.o.below J4.o);have cM:=hd_ (Nat.le_trans aX.o J4.o.size);obtain⟨k0,k1,f0,f1⟩:=Ka eS.o.e0;obtain⟨k2,k3,f2,f3⟩:=Ka eS.o.e1;have Cq:=hd_ (eS.o.put (loE b (ps.take (k+1)) (l.take (k+1))) (hiE b (ps.take (k+1)) (l.take (k+1))));have cN:Hid (w.heap.size+2<=(Zp x4 w.heap.size (loE b (ps.take (k+1)) (l.take (k+1))) (hiE b (ps.take (k+1)) (l.take (k+1)))).heap.size):=by
       show _<=_
       unfold Zp;rw[World.size_setCell,World.size_setCell,World.size_setCell,World.size_setCell];exact cM.o
      unfold Zp at Cq cN;clear eS J4 cM;refine wm_ rfl ?_;go_wp2_with fail;refine wm_ rfl ?_;go_wp2_with fail;simp only[RP.walkR];go_wp2_with fail;refine⟨⟨k+1,by omega,by go_num,Cq,cN⟩,by simp[intOf];omega⟩
  ·obtain rfl:k=n:=by omega
   have gi:¬ (k:Int)<k:=by omega
   have EK:=Hv.o trivial;rw[<- EK.1,<- EK.2] at HE;have Fs:=hd_ EK;clear EK Hv;have bH:∀ p:EnW w vlo vhi,p.w.cell? ⟨w.heap.size,0,none⟩=some (.string (itx vlo.num)):=fun p=>p.cells.1
   have aH:∀ p:EnW w vlo vhi,p.w.cell? ⟨w.heap.size,1,none⟩=some (.string (dec vlo.den)):=fun p=>p.cells.2.1
   have aG:∀ p:EnW w vlo vhi,p.w.cell? ⟨w.heap.size+1,0,none⟩=some (.string (itx vhi.num)):=fun p=>p.cells.2.2.1
   have aF:∀ p:EnW w vlo vhi,p.w.cell? ⟨w.heap.size+1,1,none⟩=some (.string (dec vhi.den)):=fun p=>p.cells.2.2.2
   have gn:Nonempty (EnW w vlo vhi):=⟨⟨_,HE.o⟩⟩;have AJ:=hd_ (HE.o.below (Qd wr 1));go_wp2_with fail;refine RP.wp_region_readers 3 [(1,0),(1,1),(0,2),(0,3)] (fun w'=>∃ p:EnW w vlo vhi,w'=p.w) (by kernel_rfl) (by kernel_rfl) ?_ ?_
   ·exact⟨⟨_,AJ.o⟩,rfl⟩
   iterate 2 (refine wr_ rfl ?_;go_big_quiet_step (fail);refine wq_ ?_)
   clear gn bH aH aG aF;obtain⟨k0,k1,f0,f1⟩:=Ka HE.o.e0;have dH:=hd_ (AJ.o.put0 vlo);refine wm_ rfl ?_;go_wp2_with fail;refine⟨⟨⟨_,dH.o⟩,rfl⟩,?_⟩;have Eb:Hid (EnI w ((wr.setCell ⟨w.heap.size,0,none⟩ (.string (itx vlo.num))).setCell ⟨w.heap.size,1,none⟩ (.string (dec vlo.den))).drew vlo vhi):=dH.o;clear k0 k1 f0 f1 dH AJ HE;generalize ((wr.setCell ⟨w.heap.size,0,none⟩ (.string (itx vlo.num))).setCell ⟨w.heap.size,1,none⟩ (.string (dec vlo.den))).drew=wz at *;obtain⟨k2,k3,f2,f3⟩:=Ka Eb.o.e1;have DV:=hd_ (Eb.o.put1 vhi);refine wm_ rfl ?_;go_wp2_with fail;simp only[RP.walkR];generalize (wz.setCell ⟨w.heap.size+1,0,none⟩ (.string (itx vhi.num))).setCell ⟨w.heap.size+1,1,none⟩ (.string (dec vhi.den))=w9 at *;clear k2 k3 f2 f3 Eb;obtain⟨c0',c1',-,-⟩:=Ka DV.o.e0;obtain⟨c2',c3',-,-⟩:=Ka DV.o.e1;go_wp2_with fail;exact bodyPost_ret (v := .tuple #[.agg #[.string (itx vlo.num),.string (dec vlo.den)],.agg #[.string (itx vhi.num),.string (dec vhi.den)]]) (by simp[results,Tryz.results124,go_sem,c0',c1',c2',c3']) rfl ⟨rfl,DV.o.bel⟩
structure Zyc (w:World) (V:List Value) (ls:List (List Int)):Prop where
 len:V.length=ls.length
 at_:∀ i,i<ls.length->∃ a' c',V[i]?=some (.slice a' (ls.getD i []).length c')/\Rd w a' (Vd (ls.getD i []))
theorem Zyc.below{w w':World}{V:List Value}{ls:List (List Int)}{B:Nat}(h:Zyc w V ls)(hb:Below B w w')(hB:w.heap.size<=B):Zyc w' V ls :=
 ⟨h.len,fun i hi=>by obtain⟨a',c',h1,h2⟩:=h.at_ i hi;exact⟨a',c',h1,h2.below hb hB⟩⟩
theorem Zyc.nil(w:World):Zyc w [] []:=⟨rfl,fun i hi=>absurd hi (Nat.not_lt_zero i)⟩
theorem Zyc.append{w:World}{V V':List Value}{ls ls':List (List Int)}(h:Zyc w V ls)(k:Zyc w V' ls'):Zyc w (V++V') (ls++ls'):=by
 refine⟨by simp[h.len,k.len],fun i hi=>?_⟩
 by_cases cw:i<ls.length
 ·obtain⟨a',c',h1,h2⟩:=h.at_ i cw;have e:(ls++ls').getD i []=ls.getD i []:=by rw[List.getD_eq_getElem?_getD,List.getD_eq_getElem?_getD,List.getElem?_append_left cw]
  rw[e];exact⟨a',c',by rw[List.getElem?_append_left (by rw[h.len];exact cw)];exact h1,h2⟩
 ·rw[List.length_append] at hi;obtain⟨a',c',h1,h2⟩:=k.at_ (i-ls.length) (by omega);have e:(ls++ls').getD i []=ls'.getD (i-ls.length) []:=by rw[List.getD_eq_getElem?_getD,List.getD_eq_getElem?_getD,List.getElem?_append_right (by omega)]
  rw[e];exact⟨a',c',by rw[List.getElem?_append_right (by rw[h.len];omega),h.len];exact h1,h2⟩
theorem Zyc.one{w:World}{V:List Value}{ls:List (List Int)}(h:Zyc w V ls):∀ u∈V,u.oneCell'=true:=fun u hu=>by
 obtain⟨i,hi,rfl⟩:=List.mem_iff_getElem.1 hu;obtain⟨a',c',h1,_⟩:=h.at_ i (by rw[<- h.len];exact hi);rw[List.getElem?_eq_getElem hi] at h1;rw[Option.some.inj h1];rfl
def Qh9 (w:World) (n:Nat) (l:List Int) (e:Ending):Prop:=(mx l=0/\∃ a c,e = .returned (.tuple #[.slice a n c,.int .i64 0])/\Rd w a (Vd l))\/(mx l≠0/\e = .returned (.tuple #[.slice none 0 0,.int .i64 4]))
theorem Qh9.form{w:World}{n:Nat}{l:List Int}{e:Ending}(h:Qh9 w n l e):∃ v1 v2,e = .returned (.tuple #[v1,v2]):=by
 rcases h with⟨_,a,c,h,_⟩|⟨_,h⟩
 ·exact⟨_,_,h⟩
 ·exact⟨_,_,h⟩
def Ok (c:Nat->Nat->Int) (u v:Nat):Prop:=0<=c v u/\(c v u=0->u<v)
structure Srt (c:Nat->Nat->Int) (n i:Nat) (F:Nat->Nat):Prop where
 lt:∀ k,k<n->F k<n
 inj:∀ k m,k<n->m<n->F k=F m->k=m
 hi:∀ k,i<=k->k<n->F k=k
 lo:∀ k,k<i->F k<i
 adj:∀ k,k+1<i->Ok c (F k) (F (k+1))
structure Ins (c:Nat->Nat->Int) (n i j:Nat) (F:Nat->Nat):Prop where
 lt:∀ k,k<n->F k<n
 inj:∀ k m,k<n->m<n->F k=F m->k=m
 x:F j=i
 hi:∀ k,i<k->k<n->F k=k
 lo:∀ k,k<=i->F k<=i
 a1:∀ k,k+1<j->Ok c (F k) (F (k+1))
 a2:∀ k,j<k->k+1<=i->Ok c (F k) (F (k+1))
 a3:∀ k,k+1=j->j<i->Ok c (F k) (F (j+1))
 a4:j<i->Ok c i (F (j+1))
 ji:j<=i
 n:i<n
theorem Srt.first(c:Nat->Nat->Int)(n:Nat):Srt c n 1 fun k=>k :=
 ⟨fun _ h=>h,fun _ _ _ _ h=>h,fun _ _ _=>rfl,fun _ h=>h,fun _ h=>by omega⟩
theorem Srt.start{c:Nat->Nat->Int}{n i:Nat}{F:Nat->Nat}(h:Srt c n i F)(hi:i<n):Ins c n i i F :=
 ⟨h.lt,h.inj,h.hi i nr_ hi,fun k h1 h2=>h.hi k (by omega) h2,fun k hk=>by
  rcases Nat.lt_or_ge k i with h1|h1
  ·exact Nat.le_of_lt (h.lo k h1)
  ·have:k=i:=by omega
   rw[this,h.hi i nr_ hi];exact Nat.le_refl _,h.adj,fun k h1 h2=>by omega,fun k h1 h2=>by omega,fun h1=>by omega,Nat.le_refl _,hi⟩
theorem Ins.stop{c:Nat->Nat->Int}{n i j:Nat}{F:Nat->Nat}(h:Ins c n i j F)(hs:j=0\/0<=c (F j) (F (j-1))):Srt c n (i+1) F:=by
 refine⟨h.lt,h.inj,fun k h1 h2=>h.hi k (by omega) h2,fun k hk=>Nat.lt_succ_of_le (h.lo k (by omega)),fun k hk=>?_⟩;have fl:=h.ji;have hn:=h.n;rcases Nat.lt_trichotomy (k+1) j with h1|h1|h1
 ·exact h.a1 k h1
 ·rcases hs with h0 | h0
  ·omega
  ·have e:j-1=k:=by omega
   rw[e] at h0;rw[h1];refine⟨h0,fun _=>?_⟩;have hx:=h.x;have h2:=h.lo k (by omega);have h3:F k≠F j:=fun e=>by have:=h.inj k j (by omega) (by omega) e;omega
   omega
 ·rcases Nat.lt_or_ge j k with h2 | h2
  ·exact h.a2 k h2 (by omega)
  ·have e:k=j:=by omega
   subst e;rw[h.x];exact h.a4 (by omega)
def swF (F:Nat->Nat) (j:Nat):Nat->Nat:=fun k=>if k=j then F (j+1) else if k=j+1 then F j else F k
theorem Ins.swap{c:Nat->Nat->Int}(hc:∀ u v,c v u = - c u v){n i j:Nat}{F:Nat->Nat}(h:Ins c n i (j+1) F)(hs:c (F (j+1)) (F j)<0):Ins c n i j (swF F j):=by
 have fl:=h.ji;have hn:=h.n;have hx:=h.x;have s1:swF F j j=i:=by unfold swF;rw[if_pos rfl];exact hx
 have s2:swF F j (j+1)=F j:=by unfold swF;rw[if_neg (by omega),if_pos rfl]
 have s3:∀ k,k≠j->k≠j+1->swF F j k=F k:=fun k h1 h2=>by unfold swF;rw[if_neg h1,if_neg h2]
 refine⟨fun k hk=>?_,fun k m hk hm e=>?_,s1,fun k h1 h2=>?_,fun k hk=>?_,fun k hk=>?_,fun k h1 h2=>?_,fun k h1 h2=>?_,fun h1=>?_,by omega,hn⟩
 ·unfold swF;split
  ·exact h.lt _ (by omega)
  ·split
   ·exact h.lt _ (by omega)
   ·exact h.lt _ hk
 ·unfold swF at e
  by_cases k1:k=j
  ·by_cases m1:m=j
   ·omega
   ·rw[if_pos k1,if_neg m1] at e
    by_cases m2:m=j+1
    ·rw[if_pos m2] at e;have:=h.inj _ _ (by omega) (by omega) e
     omega
    ·rw[if_neg m2] at e;have:=h.inj _ _ (by omega) hm e
     omega
  ·rw[if_neg k1] at e
   by_cases k2:k=j+1
   ·rw[if_pos k2] at e
    by_cases m1:m=j
    ·rw[if_pos m1] at e;have:=h.inj _ _ (by omega) (by omega) e
     omega
    ·rw[if_neg m1] at e
     by_cases m2:m=j+1
     ·omega
     ·rw[if_neg m2] at e;have:=h.inj _ _ (by omega) hm e
      omega
   ·rw[if_neg k2] at e
    by_cases m1:m=j
    ·rw[if_pos m1] at e;have:=h.inj _ _ hk (by omega) e
     omega
    ·rw[if_neg m1] at e
     by_cases m2:m=j+1
     ·rw[if_pos m2] at e;have:=h.inj _ _ hk (by omega) e
      omega
     ·rw[if_neg m2] at e;exact h.inj _ _ hk hm e
 ·rw[s3 k (by omega) (by omega)];exact h.hi k h1 h2
 ·unfold swF;split
  ·omega
  ·split
   ·exact h.lo _ (by omega)
   ·exact h.lo _ hk
 ·rw[s3 k (by omega) (by omega),s3 (k+1) (by omega) (by omega)];exact h.a1 k (by omega)
 ·rcases Nat.lt_or_ge (j+1) k with h3 | h3
  ·rw[s3 k (by omega) (by omega),s3 (k+1) (by omega) (by omega)];exact h.a2 k h3 h2
  ·have e:k=j+1:=by omega
   subst e;rw[s2,s3 (j+1+1) (by omega) (by omega)];exact h.a3 j rfl (by omega)
 ·subst h1;rw[s3 k (by omega) (by omega),s2];exact h.a1 k (by omega)
 ·rw[s2,<- hx];have e:=hc (F (j+1)) (F j);exact⟨by omega,fun h0=>by omega⟩
structure Qcl (W:World) (g n:Nat) (F:Nat->Nat):Prop where
 lt:g<W.heap.size
 cell:∀ k,k<n->W.cell? ⟨g,k,none⟩=some (.int .i64 (F k:Nat))
 fr:∀ k,W.frozen? ⟨g,k,none⟩=false
theorem Qcl.below{W W':World}{g n D:Nat}{F:Nat->Nat}(h:Qcl W g n F)(hb:Below D W W')(hD:W.heap.size<=D):Qcl W' g n F:=by
 have H7:=h.lt;have e:=hb.block g (by omega);have hs:=hb.size;refine⟨?_,fun k hk=>?_,fun k=>?_⟩
 ·have h2:=Array.getElem?_eq_some_iff.1 (show W.heap[g]?=some W.heap[g] from Array.getElem?_eq_getElem H7);rw[Array.getElem?_eq_getElem H7] at e;exact(Array.getElem?_eq_some_iff.1 e).1
 ·rw[hb.cell (p:=⟨g,k,none⟩) (show g<D by omega)];exact h.cell k hk
 ·have:=h.fr k
  unfold World.frozen? at this ⊢;rw[show W'.heap[(⟨g,k,none⟩:Addr).block]?=W.heap[(⟨g,k,none⟩:Addr).block]? from e];exact this
theorem Qcl.swap{W:World}{g n:Nat}{F:Nat->Nat}(h:Qcl W g n F)(j:Nat)(hj:j+1<n):
  Qcl ((W.setCell ⟨g,j+1,none⟩ (.int .i64 (F j:Nat))).setCell ⟨g,j,none⟩ (.int .i64 (F (j+1):Nat))) g n (swF F j):=by
 have h0:=h.cell j (by omega);have h1:=h.cell (j+1) hj;have ne:∀ a b:Nat,a≠b->(⟨g,a,none⟩:Addr)≠⟨g,b,none⟩:=fun a b Fn e=>by cases e;exact Fn rfl
 refine⟨by simpa using h.lt,fun k hk=>?_,fun k=>?_⟩
 ·unfold swF
  by_cases k1:k=j
  ·subst k1;rw[if_pos rfl];exact World.cell?_setCell_same _ _ _ (u := .int .i64 (F k:Nat)) (by rw[World.cell?_setCell_other _ _ _ _ (ne _ _ (by omega))];exact h0)
  ·rw[if_neg k1,World.cell?_setCell_other _ _ _ _ (ne _ _ (fun e=>k1 e.symm))]
   by_cases k2:k=j+1
   ·subst k2;rw[if_pos rfl];exact World.cell?_setCell_same _ _ _ h1
   ·rw[if_neg k2,World.cell?_setCell_other _ _ _ _ (ne _ _ (fun e=>k2 e.symm))];exact h.cell k hk
 ·have:=h.fr k
  simpa using this
structure Zyb (W:World) (ps:List Int) (g2 g3:Nat) (a0 al:OA_) (c0 cl:Nat) (LL:List (List Rat)):Prop where
 h2:W.heap[g2]?=some (.cells #[.slice a0 ps.length c0] 31 (0,0))
 h3:W.heap[g3]?=some (.cells #[.slice al LL.length cl] 54 (0,0))
 rp:Rd W a0 (Vd ps)
 rl:RdL W al (LL.map (List.map qs))
theorem Zyb.below{W W':World}{ps:List Int}{g2 g3:Nat}{a0 al:OA_}{c0 cl:Nat}{LL:List (List Rat)}(h:Zyb W ps g2 g3 a0 al c0 cl LL){D:Nat}(hb:Below D W W')(hD:W.heap.size<=D):Zyb W' ps g2 g3 a0 al c0 cl LL :=
 ⟨Zr h.h2 hb hD,Zr h.h3 hb hD,h.rp.below hb hD,h.rl.below hb hD⟩
theorem Qcl.rd{W:World}{g n:Nat}{F:Nat->Nat}(h:Qcl W g n F):Rd W (some ⟨g,0,none⟩) (Vd ((List.range n).map fun (k:Nat)=>((F k:Nat):Int))):=by
 refine .inr ⟨g,0,rfl,h.lt,fun i v hv=>?_⟩;rw[Nat.zero_add];have hi:i<n:=by
  have:=(List.getElem?_eq_some_iff.1 hv).1
  simpa [Qw] using this
 rw[Yn _ i (by simpa using hi)] at hv;cases hv
 rw[h.cell i hi];simp
def Zum (W:World) (g:Nat) (t:TypeId) (D:List UInt8):Prop:=W.rowIs g t D.length (fun i => .int .u8 ((D.getD i 0).toNat:Nat))
theorem Zum.cell{W:World}{g:Nat}{t:TypeId}{D:List UInt8}(h:Zum W g t D){i:Nat}(hi:i<D.length):W.cell? ⟨g,i,none⟩=some (.int .u8 ((D.getD i 0).toNat:Nat)):=World.rowIs.cell h hi
theorem Zum.frozen{W:World}{g:Nat}{t:TypeId}{D:List UInt8}(h:Zum W g t D)(i:Nat):W.frozen? ⟨g,i,none⟩=false:=World.rowIs.frozen h i
theorem Zum.set{W:World}{g:Nat}{t:TypeId}{D:List UInt8}(h:Zum W g t D)(i x:Nat)(hx:x<256):Zum (W.setCell ⟨g,i,none⟩ (.int .u8 (x:Nat))) g t (D.set i (UInt8.ofNat x)):=by
 unfold Zum;rw[List.length_set];refine(World.rowIs.set h i _).congr fun j hj=>?_
 by_cases e:j=i
 ·subst e;rw[if_pos rfl];simp only[List.getD_eq_getElem?_getD,List.getElem?_set];simp only[if_true,if_pos hj,Option.getD_some];simp[Nat.mod_eq_of_lt hx]
 ·rw[if_neg e];simp only[List.getD_eq_getElem?_getD,List.getElem?_set];rw[if_neg (fun h=>e h.symm)]
theorem Zum.text{W:World}{g:Nat}{t src dst e:TypeId}{D:List UInt8}(h:Zum W g t D)(k n c:Nat)(hn:k+n=D.length)
  (hs:Tryz.prog.underlying src=some (.slice e)) (he:Tryz.prog.underlying e=some (.int .u8)) (hd:Tryz.prog.underlying dst=some .string) :
  (convert src dst (.slice (some ⟨g,k,none⟩) n c)).run Tryz.prog W = .ok (.string ⟨(D.drop k).toArray⟩) W:=by
 have hl:(D.drop k).length=n:=by simp;omega
 rw[<- hl];refine run_convert_bytes_back W src dst e ⟨g,k,none⟩ c (D.drop k) hs he hd fun j hj=>?_
 rw[Lib.add_plain];rw[Zum.cell h (by omega)];rw[List.getD_eq_getElem?_getD,List.getElem?_eq_getElem (by omega)];simp
def jn (L:List ByteArray):ByteArray:=⟨(Lib.join (L.map (·.data.toList)) [32]).toArray⟩
theorem Zdt.reverse{l:List UInt8}(h:Zdt l):Zdt l.reverse:=fun c hc=>h c (List.mem_reverse.1 hc)
structure JAt (w:World) (n:Nat) (T:List UInt8) (wr:World):Prop where
 row:∃ D,Zum wr w.heap.size 5 D/\D.length=9*n+1/\(D.getD 0 0).toNat=48/\D.drop (9*n+1-T.length)=T
 bel:Bw_ w wr
theorem JAt.set{w wr:World}{n:Nat}{T:List UInt8}(h:JAt w n T wr)(m x:Nat)(hm:m+T.length=9*n)(ER:0<m)(hx:x<256):JAt w n (UInt8.ofNat x::T) (wr.setCell ⟨w.heap.size,m,none⟩ (.int .u8 (x:Nat))):=by
 obtain⟨D,h1,h2,h3,h4⟩:=h.row;refine⟨⟨D.set m (UInt8.ofNat x),h1.set m x hx,by rw[List.length_set];exact h2,?_,?_⟩,h.bel.setCell nr_ _⟩
 ·rw[List.getD_eq_getElem?_getD,List.getElem?_set_ne (by omega),<- List.getD_eq_getElem?_getD];exact h3
 ·have e:9*n+1-(UInt8.ofNat x::T).length=m:=by simp;omega
  rw[e,List.drop_eq_getElem_cons (by simp;omega),List.getElem_set_self,List.drop_set,if_pos (by omega)];congr 1;rw[<- h4];congr 1;omega
theorem JAt.cell{w wr:World}{n:Nat}{T:List UInt8}(h:JAt w n T wr)(m:Nat)(hm:m<=9*n):(∃ x:Nat,wr.cell? ⟨w.heap.size,m,none⟩=some (.int .u8 x))/\wr.frozen? ⟨w.heap.size,m,none⟩=false:=by
 obtain⟨D,h1,h2,_,_⟩:=h.row;exact⟨⟨_,h1.cell (by omega)⟩,h1.frozen m⟩
theorem JAt.done{w wr:World}{n:Nat}{T:List UInt8}(h:JAt w n T wr)(hT:T.length=9*n)(hd:Zdt T):∃ D,Zum wr w.heap.size 5 D/\D.length=9*n+1/\Zdt D/\Vo D=Vo T:=by
 obtain⟨D,h1,h2,h3,h4⟩:=h.row;have e:9*n+1-T.length=1:=by omega
 rw[e] at h4
 match D,h2,h3,h4 with
 | c::D,h2,h3,h4 =>
  obtain rfl:D=T:=by simpa using h4
  have hc:c.toNat=48:=by simpa using h3
  refine⟨_,h1,h2,fun y hy=>?_,?_⟩
  ·rcases List.mem_cons.1 hy with rfl | hy
   ·omega
   ·exact hd y hy
  ·rw[Zbf,hc];simp
end Go.Proofs.YtbielfplgbammaaGreatDoor

namespace Go.Proofs.YtbielfplgbammaaGreatDoor.LN
def upP:List Int->List Int->Nat
 | p::ps,k::ks=>p.toNat^k.toNat*upP ps ks
 | _,_=>1
theorem upP_snoc:∀ (ps ks:List Int) (p k:Int),ps.length=ks.length->upP (ps++[p]) (ks++[k])=upP ps ks*p.toNat^k.toNat
 | [],[],p,k,_=>by simp[upP]
 | q::ps,m::ks,p,k,h=>by
  have ih:=upP_snoc ps ks p k (by simpa using h);simp only[List.cons_append,upP];rw[ih,Nat.mul_assoc]
theorem upP_le(K:Nat):∀ (ps ks:List Int),(∀ p∈ps,2<=p/\p<=97)->(∀ k∈ks,k<=(K:Int))->upP ps ks<10^(2*K*ps.length+1)
 | [],_,_,_=>by simp[upP]
 | _::_,[],_,_=>by
  simp only[upP];exact Nat.one_lt_pow (by omega) (by decide)
 | p::ps,k::ks,h,h2=>by
  have ih:=upP_le K ps ks (fun q hq=>h q (List.mem_cons_of_mem _ hq)) fun q hq=>h2 q (List.mem_cons_of_mem _ hq)
  obtain⟨a,b⟩:=h p List.mem_cons_self;have hk:=h2 k List.mem_cons_self;simp only[upP];have h3:p.toNat^k.toNat<=100^k.toNat:=Nat.pow_le_pow_left (by omega) _;have h4:100^k.toNat<=100^K:=Nat.pow_le_pow_right (by decide) (by omega);have h5:(100:Nat)^K=10^(2*K):=by rw[show (100:Nat)=10^2 from rfl,<- Nat.pow_mul]
  rw[h5] at h4;have e:10^(2*K*(p::ps).length+1)=10^(2*K)*10^(2*K*ps.length+1):=by rw[<- Nat.pow_add];congr 1;rw[List.length_cons,Nat.mul_add];omega
  rw[e];exact Nat.mul_lt_mul_of_le_of_lt (Nat.le_trans h3 h4) ih (Nat.pow_pos (by decide))
end Go.Proofs.YtbielfplgbammaaGreatDoor.LN

namespace Go.Proofs.YtbielfplgbammaaGreatDoor
open Go.RowKit
structure Qgw (ps ks:List Int) (k u d:Nat):Prop where
 up:u=LN.upP (ps.take k) (ks.take k)
 dn:d=LN.upP (ps.take k) ((ks.map fun z => -z).take k)
 le:∀ z∈ks.take k,z<=500 /\ -500<=z
theorem Zc6{α:Type}(l:List α)(k:Nat)(h:k<l.length):l.take (k+1)=l.take k++[l[k]]:=List.take_succ_eq_append_getElem h
theorem Qgw.next{ps ks:List Int}{k u d:Nat}(h:Qgw ps ks k u d)(h1:k<ps.length)(hk:k<ks.length)(hz:ks[k]<=500 /\ -500<=ks[k]):
  Qgw ps ks (k+1) (u*ps[k].toNat^ks[k].toNat) (d*ps[k].toNat^(-ks[k]).toNat):=by
 refine⟨?_,?_,?_⟩
 ·rw[Zc6 ps k h1,Zc6 ks k hk,LN.upP_snoc _ _ _ _ (by simp;omega),<- h.up]
 ·have fT:k<(ks.map fun z => -z).length:=by simpa using hk
  rw[Zc6 ps k h1,Zc6 _ k fT,LN.upP_snoc _ _ _ _ (by simp;omega),<- h.dn,List.getElem_map]
 ·intro z fM;rw[Zc6 ks k hk] at fM;rcases List.mem_append.1 fM with h3|h3
  ·exact h.le z h3
  ·obtain rfl:=List.mem_singleton.1 h3;exact hz
theorem Qgw.num{ps ks:List Int}{k u d:Nat}(h:Qgw ps ks k u d)(hp:∀ p∈ps,2<=p/\p<=97)(hn:ps.length<=100):Num u/\Num d:=by
 have hl:(ps.take k).length<=100:=by simp;omega
 have hb:2*500*(ps.take k).length+1<=1000000:=by omega
 have Js:∀ p∈ps.take k,2<=p/\p<=97:=fun p dO=>hp p (List.mem_of_mem_take dO)
 refine⟨?_,?_⟩
 ·rw[h.up];exact Kr (LN.upP_le 500 _ _ Js fun z hz=>by have:=h.le z hz;omega) (by omega) hb
 ·rw[h.dn];refine Kr (LN.upP_le 500 _ _ Js fun z hz=>?_) (by omega) hb;rw[<- List.map_take] at hz;obtain⟨y,hy,rfl⟩:=List.mem_map.1 hz;have:=h.le y hy
  omega
end Go.Proofs.YtbielfplgbammaaGreatDoor

namespace Go.Proofs.YtbielfplgbammaaGreatDoor
open Go.RowKit Go.Proofs.YtbielfplgbammaaGreatDoor.RP
end Go.Proofs.YtbielfplgbammaaGreatDoor

namespace Go.Proofs.YtbielfplgbammaaGreatDoor
open Go.RowKit
end Go.Proofs.YtbielfplgbammaaGreatDoor

namespace Go.Proofs.YtbielfplgbammaaGreatDoor
open Go.ChangeShapes Go.WideShapes Go.ChangeAt Go.RowKit Go.Joins
section
variable {H:Type} {enc:TypeId×Value->H} {W:World}
end
end Go.Proofs.YtbielfplgbammaaGreatDoor

namespace Go.Proofs.YtbielfplgbammaaGreatDoor
open Go.RowKit
theorem Zv9{w:World}{B1 B2 s1 s2 n1 n2:Nat}{e1 e2:TypeId}{v1 v2:Value}{x1 x2:List Value}(h1:w.ownsRow B1 e1 s1 v1 n1 x1)(h2:w.ownsRow B2 e2 s2 v2 n2 x2)(gh:e1≠e2):
  ∀ k,v1.ownBlock=some k->v2.ownBlock≠some k:=by
 intro k hk fT;rcases h1.2 with⟨rfl,_⟩|⟨g,cap,cur,rfl,_,hg,_⟩
 ·simp[Value.ownBlock] at hk
 ·rcases h2.2 with⟨rfl,_⟩ | ⟨g2,cap2,cur2,rfl,_,hg2,_⟩
  ·simp[Value.ownBlock] at fT
  ·simp only[Value.ownBlock,Option.some.injEq] at hk fT;subst hk;subst fT;rw[hg] at hg2;simp only[Option.some.injEq,Obj.cells.injEq] at hg2;exact gh hg2.2.1
structure Qe4 (w:World) (B:Nat) (b:OA_) (d:Nat) (n:Nat) (L:List (OA_×Nat)) (ls:List (List Rat)):Prop where
 len:L.length=ls.length
 row:w.ownsRow B 35 1 (.slice b L.length d) L.length (L.map fun x => .slice x.1 n x.2)
 each:∀ i (h1:i<L.length) (h2:i<ls.length),Zdr w B L[i].1 L[i].2 ls[i]
 lens:∀ l∈ls,l.length=n
theorem Qe4.below{w w':World}{B d n:Nat}{b:OA_}{L:List (OA_×Nat)}{ls:List (List Rat)}(h:Qe4 w B b d n L ls)(hb:Bw_ w w'):Qe4 w' B b d n L ls :=
 ⟨h.len,Ky h.row hb nr_,fun i h1 h2=>(h.each i h1 h2).below hb nr_,h.lens⟩
end Go.Proofs.YtbielfplgbammaaGreatDoor

namespace Go.Proofs.YtbielfplgbammaaGreatDoor
open Go.RowKit Go.Proofs.YtbielfplgbammaaGreatDoor.RP
theorem Qe4.put{w1 w3:World}{B d n c:Nat}{b a:OA_}{L:List (OA_×Nat)}{ls:List (List Rat)}{l:List Rat}{v':Value}(h:Qe4 w1 B b d n L ls)(ho:Zdr w1 B a c l)(hl:l.length=n)
  (gl:w3.ownsRow B 35 1 v' (L.length+1) ((L.map fun x=>Value.slice x.1 n x.2)++[.slice a n c])) (hg:(w1.alloc (.cells #[.slice a n c] 35)).grownBy w3 (Value.slice b L.length d).ownBlock) :
  ∃ b' d',v' = .slice b' (L.length+1) d'/\Qe4 w3 B b' d' n (L++[(a,c)]) (ls++[l]):=by
 obtain⟨b',d',rfl⟩:=Qp gl;have hA:Bw_ w1 (w1.alloc (.cells #[.slice a n c] 35)):=(Below.refl _ _).alloc nr_ _;have Gn:=Ky h.row hA nr_;have GQ:∀ (a2:OA_) (c2:Nat) (l2:List Rat),Zdr w1 B a2 c2 l2->Zdr w3 B a2 c2 l2:=fun a2 c2 l2 h2=>by
  have h3:=Zre (h2.below hA nr_);refine Zrd (World.ownsRow.kept h3 hg ?_);have cH:=Zv9 Gn h3 (by decide);cases hv:(Value.slice b L.length d).ownBlock with
  | none=>cases hv2:(Value.slice a2 l2.length c2).ownBlock<;>simp
  | some k=>exact .inr (cH k hv)
 refine⟨b',d',rfl,?_,?_,?_,?_⟩
 ·simp[h.len]
 ·rw[List.length_append,List.map_append];exact gl
 ·intro i h1 h2
  by_cases hi:i<L.length
  ·have ET:i<ls.length:=by rw[<- h.len];exact hi
   rw[List.getElem_append_left ET];simp only[List.getElem_append_left hi];exact GQ _ _ _ (h.each i hi ET)
  ·have e:i=L.length:=by simp at h1;omega
   subst e;rw[List.getElem_append_right (by rw[h.len];exact Nat.le_refl _)];simp only[List.getElem_append_right nr_,h.len,Nat.sub_self,List.getElem_cons_zero];exact GQ _ _ _ ho
 ·intro m hm;rcases List.mem_append.1 hm with hm|hm
  ·exact h.lens m hm
  ·rw[List.mem_singleton.1 hm];exact hl
end Go.Proofs.YtbielfplgbammaaGreatDoor

namespace Go.Proofs.YtbielfplgbammaaGreatDoor
open Go.RowKit
end Go.Proofs.YtbielfplgbammaaGreatDoor

namespace Go.Proofs.YtbielfplgbammaaGreatDoor
open Go.RowKit
def Zuo {α:Type} (pf : α->Bool):List α->Nat->Int
 | [],_ => -1
 | x::l,k=>if pf x=true then (k:Int) else Zuo pf l (k+1)
theorem Zrt{α:Type}(pf : α->Bool):∀ (l:List α) (k:Nat),decide (0<=Zuo pf l k)=l.any pf
 | [],_=>by simp[Zuo]
 | x::l,k=>by
  unfold Zuo;rw[List.any_cons]
  by_cases h:pf x=true
  ·rw[if_pos h,h];simp
  ·rw[if_neg h,Zrt pf l (k+1)];simp only[Bool.not_eq_true] at h;rw[h,Bool.false_or]
theorem Zli {f : FuncId} {fn : Func} {c : Code} (hf : Tryz.prog.funcs[f]? = some fn) (hname : (fn.name == "runtime.NumGoroutine") = false) (hb : fn.body = some c) : ∀ args w, (callFunc f args).run Tryz.prog w = .ok (.enter f args) w := enters_of hf hname hb
def sgE (lo hi:Rat):Int:=if 0<=lo.num.sign then 1 else if hi.num.sign<=0 then -1 else 0
theorem Zfc(q:Rat):0<=q.num.sign↔0<=q:=by
 rw[<- Rat.num_nonneg];rcases Int.lt_trichotomy q.num 0 with h|h|h
 ·rw[Int.sign_eq_neg_one_of_neg h];omega
 ·rw[h];decide
 ·rw[Int.sign_eq_one_of_pos h];omega
theorem Zjj(q:Rat):q.num.sign<=0↔q<=0:=by
 have h1:q<=0↔q.num<=0:=by
  have:=Zfc (-q)
  rw[Rat.neg_num,Int.sign_neg] at this;constructor
  ·intro h;have h2:0 <= -q:=by grind
   have h3:=Rat.num_nonneg.2 h2;rw[Rat.neg_num] at h3;omega
  ·intro h;have h2:0<=(-q).num:=by rw[Rat.neg_num];omega
   have h3:=Rat.num_nonneg.1 h2
   grind
 rw[h1];rcases Int.lt_trichotomy q.num 0 with h|h|h
 ·rw[Int.sign_eq_neg_one_of_neg h];omega
 ·rw[h];decide
 ·rw[Int.sign_eq_one_of_pos h];omega
theorem Zoy(n:Nat)(ps:List Int)(l:List Rat):sgE (loE n ps l) (hiE n ps l)=Zar n ps l:=by
 unfold sgE Zar
 by_cases h1:0<=loE n ps l
 ·rw[if_pos ((Zfc _).2 h1),if_pos h1]
 ·rw[if_neg fun h=>h1 ((Zfc _).1 h),if_neg h1]
  by_cases h2:hiE n ps l<=0
  ·rw[if_pos ((Zjj _).2 h2),if_pos h2]
  ·rw[if_neg fun h=>h2 ((Zjj _).1 h),if_neg h2]
theorem Zlh(w:World)(a b:Rat):Kc Tryz.prog 123 #[fr a,fr b] w (.int .i64 (sgE a b)):=by
 have H3:=hd_ (Qbl.mk' w (itx a.num) (dec a.den) (itx b.num) (dec b.den));have Ha:=hd_ (fun W=>Zos W a);have Hb:=hd_ (fun W=>Zos W b);have Hv:Hid (sgE a b=if 0<=a.num.sign then 1 else if b.num.sign<=0 then -1 else 0):=rfl;generalize sgE a b=v at *;unfold Kc;unfold fr fv at Ha Hb ⊢;generalize a.num.sign=sa at *;generalize b.num.sign=sb at *
 by_cases h1:0<=sa
 ·have Ew:Hid (v=1):=by show _=_;rw[Hv.o,if_pos h1]
  clear Hv Hb;go_enter Tryz.func123,Tryz.ntmps123;obtain⟨k0,k1,-,-⟩:=Ka H3.o.fa;go_wp2_with fail;generalize (w.alloc (.cells #[.string (itx a.num),.string (dec a.den)] 101)).alloc (.cells #[.string (itx b.num),.string (dec b.den)] 101)=W0 at *;clear k0 k1;refine cm_ (Ha.o _) ?_;rintro e w1 ⟨rfl,hZ⟩;have B1:=hd_ (H3.o.bel.trans (hZ.mono H3.o.bel.size));clear hZ Ha;go_wp2_with fail;go_ret;exact⟨by rw[Ew.o];rfl,B1.o⟩
 ·by_cases h2:sb<=0
  ·have Ew:Hid (v = -1):=by show _=_;rw[Hv.o,if_neg h1,if_pos h2]
   clear Hv;go_enter Tryz.func123,Tryz.ntmps123;obtain⟨k0,k1,-,-⟩:=Ka H3.o.fa;go_wp2_with fail;generalize (w.alloc (.cells #[.string (itx a.num),.string (dec a.den)] 101)).alloc (.cells #[.string (itx b.num),.string (dec b.den)] 101)=W0 at *;clear k0 k1;refine cm_ (Ha.o _) ?_;rintro e w1 ⟨rfl,hZ⟩;have H4:=hd_ (H3.o.next hZ);clear hZ Ha H3;obtain⟨k2,k3,-,-⟩:=Ka H4.o.fb;go_wp2_with fail;clear k2 k3;refine cm_ (Hb.o _) ?_;rintro e w2 ⟨rfl,hZ⟩;have B1:=hd_ (H4.o.bel.trans (hZ.mono H4.o.bel.size));clear hZ Hb;go_wp2_with fail;go_ret;exact⟨by rw[Ew.o];rfl,B1.o⟩
  ·have Ew:Hid (v=0):=by show _=_;rw[Hv.o,if_neg h1,if_neg h2]
   clear Hv;go_enter Tryz.func123,Tryz.ntmps123;obtain⟨k0,k1,-,-⟩:=Ka H3.o.fa;go_wp2_with fail;generalize (w.alloc (.cells #[.string (itx a.num),.string (dec a.den)] 101)).alloc (.cells #[.string (itx b.num),.string (dec b.den)] 101)=W0 at *;clear k0 k1;refine cm_ (Ha.o _) ?_;rintro e w1 ⟨rfl,hZ⟩;have H4:=hd_ (H3.o.next hZ);clear hZ Ha H3;obtain⟨k2,k3,-,-⟩:=Ka H4.o.fb;go_wp2_with fail;clear k2 k3;refine cm_ (Hb.o _) ?_;rintro e w2 ⟨rfl,hZ⟩;have B1:=hd_ (H4.o.bel.trans (hZ.mono H4.o.bel.size));clear hZ Hb;go_wp2_with fail;go_ret;exact⟨by rw[Ew.o];rfl,B1.o⟩
theorem Qaf(w:World)(a:OA_)(c:Nat)(l:List Rat)(hr:Rd w a (Kj l))(hl:l.length<=1000000)(f:FuncId)(lb:Array Value)(eg:∀ args w,(callFunc f args).run Tryz.prog w = .ok (.enter f args) w)(pf:Rat->Bool)
  (bH:∀ W,Bw_ w W->∀ x∈l,Kc Tryz.prog f (#[fr x]++lb) W (.bool (pf x))) :
  Kc Tryz.prog 257 #[.slice a l.length c,.func (.func f) #[] lb] w (.int .i64 (Zuo pf l 0)):=by
 unfold Kc;have Hr:=hd_ hr;have Pj:=hd_ bH;clear hr bH;generalize hm:l.length=m at *;have Hm:=hd_ hm;clear hm;generalize hv:Zuo pf l 0=v at *;have Fs:Hid (v=Zuo pf l 0):=hv.symm;clear hv;go_enter Tryz.func257,Tryz.ntmps257;go_wp2_with fail
 go_loopw [8] (fun i wr=>∃ k:Nat,k<=m/\i = .int .i64 k/\Hid (v=Zuo pf (l.drop k) k)/\Hid (Bw_ w wr)) (fun i _=>m-(intOf i).toNat)
 case atStart=>exact⟨0,Nat.zero_le _,rfl,Fs,Below.refl _ _⟩
 case round =>
  clear Fs;obtain⟨k,hk,rfl,Hx,B⟩:=hrel
  by_cases H7:k<m
  ·have gi:(k:Int)<m:=by omega
   have Gp:k<l.length:=by rw[Hm.o];exact H7
   obtain⟨b,off,rfl,hb,hcells⟩:=Hr.o.open (by rw[Kq];omega);obtain⟨x0,x1⟩:=Qb hcells k (by rw[List.length_map];exact Gp);rw[Qc l k Gp] at x0 x1;rw[<- B.o.cell (p:=⟨b,off+k*2,none⟩) hb] at x0;rw[<- B.o.cell (p:=⟨b,off+k*2+1,none⟩) hb] at x1;have Hd:Hid (l.drop k=l[k]::l.drop (k+1)):=List.drop_eq_getElem_cons Gp;have Hc:=hd_ (Pj.o wr B.o l[k] (List.getElem_mem Gp));unfold fr fv at Hc;unfold qs at x0 x1;simp only at x0 x1;clear hcells;generalize l[k]=x at *;cases hf:pf x with
   | false =>
    have Hn:Hid (v=Zuo pf (l.drop (k+1)) (k+1)):=by show _=_;rw[Hx.o,Hd.o,Zuo,if_neg (by rw[hf];decide)]
    rw[hf] at Hc;go_wp2_with fail;refine cm_ Hc.o ?_;rintro e w1 ⟨rfl,hZ⟩;have B1:=bt_ B hZ;clear hZ Hc B x0 x1;go_wp2_with fail
    go_roundw
    case rel=>exact⟨k+1,by omega,by go_num,Hn,B1⟩
    case measure=>simp[intOf];omega
   | true =>
    have Hn:Hid (v=k):=by show _=_;rw[Hx.o,Hd.o,Zuo,if_pos hf]
    rw[hf] at Hc;go_wp2_with fail;refine cm_ Hc.o ?_;rintro e w1 ⟨rfl,hZ⟩;have B1:=bt_ B hZ;clear hZ Hc B x0 x1;go_wp2_with fail;go_ret;exact⟨by rw[Hn.o];rfl,B1.o⟩
  ·have gi:¬ (k:Int)<m:=by omega
   have Hn:Hid (v = -1):=by show _=_;rw[Hx.o,List.drop_of_length_le (by rw[Hm.o];omega)];rfl
   go_wp2_with fail;go_ret;exact⟨by rw[Hn.o];rfl,B.o⟩
theorem Qa7(w:World)(a:OA_)(c:Nat)(l:List Rat)(hr:Rd w a (Kj l))(hl:l.length<=1000000)(f:FuncId)(lb:Array Value)(eg:∀ args w,(callFunc f args).run Tryz.prog w = .ok (.enter f args) w)(pf:Rat->Bool)
  (bH:∀ W,Bw_ w W->∀ x∈l,Kc Tryz.prog f (#[fr x]++lb) W (.bool (pf x))) :
  Kc Tryz.prog 201 #[.slice a l.length c,.func (.func f) #[] lb] w (.bool (l.any pf)):=by
 unfold Kc;have Hc:=hd_ (Qaf w a c l hr hl f lb eg pf bH);have Hv:=hd_ (Zrt pf l 0);unfold Kc at Hc;clear hr bH;generalize l.length=m at *;generalize Zuo pf l 0=v at *;generalize l.any pf=z at *;go_enter Tryz.func201,Tryz.ntmps201;go_wp2_with fail;refine cm_ Hc.o ?_;rintro e w1 ⟨rfl,hZ⟩;have B1:=hd_ hZ;clear hZ Hc;go_wp2_with fail;go_ret;exact⟨by rw[<- Hv.o];rfl,B1.o⟩
def nzQ (q:Rat):Bool:=q.num.sign != 0
theorem Zym(w:World)(q:Rat):Kc Tryz.prog 202 #[fr q] w (.bool (nzQ q)):=by
 unfold Kc;have gm:=hd_ ((Below.refl w.heap.size w).alloc nr_ (.cells #[.string (itx q.num),.string (dec q.den)] 101));have Hs:=hd_ (fun W=>Zos W q);have Hv:Hid (nzQ q=(q.num.sign != 0)):=rfl;have F:=Zc0.new w q;generalize nzQ q=v at *;unfold fr fv at Hs ⊢;generalize q.num.sign=s at *;go_enter Tryz.func202,Tryz.ntmps202;obtain⟨k0,k1,-,-⟩:=Ka F;clear F;go_wp2_with fail;generalize w.alloc (.cells #[.string (itx q.num),.string (dec q.den)] 101)=W0 at *;clear k0 k1;refine cm_ (Hs.o _) ?_;rintro e w1 ⟨rfl,hZ⟩;have B1:=bt_ gm hZ;clear hZ Hs;go_wp2_with fail;go_ret;exact⟨by rw[Hv.o];rfl,B1.o⟩
theorem Zgp(w:World)(a:OA_)(c:Nat)(l:List Rat)(hr:Rd w a (Kj l))(hl:l.length<=1000000):
  Kc Tryz.prog 119 #[.slice a l.length c] w (.bool (!l.any nzQ)):=by
 unfold Kc;have Hc:=hd_ (Qa7 w a c l hr hl 202 #[] (Zli Tryz.func202 (by kernel_rfl) rfl) nzQ fun W _ x _=>Zym W x);unfold Kc at Hc;clear hr hl;generalize l.length=m at *;generalize l.any nzQ=z at *;go_enter Tryz.func119,Tryz.ntmps119;go_wp2_with fail;refine cm_ Hc.o ?_;rintro e w1 ⟨rfl,hZ⟩;have B1:=hd_ hZ;clear hZ Hc;go_wp2_with fail;go_ret;exact⟨rfl,B1.o⟩
def Qgz (w w':World) (ps:List Int) (l:List Rat) (T:Nat->Bool) (e:Ending):Prop :=
 ∃ R B n,e = .returned (.tuple #[.pointer (some ⟨R,0,none⟩),.int .i64 (n:Nat),.bool true])/\Zod w' R ps l B/\n<=B/\B<=1000/\Zbk T n/\Bw_ w w'
theorem Znk(w:World)(ps:List Int)(l:List Rat)(a0 a1:OA_)(c0 c1 D:Nat)(rp:Rd w a0 (Vd ps))(rl:Rd w a1 (Kj l))(hl:l.length=ps.length)(hn:ps.length<=100)(hp:∀ p∈ps,∃ q:Nat,p=q/\(q=2\/q∈Zba))(hs:∀ q∈l,Sm D q)(hD:D<=300)
  (f:FuncId) (lb:Array Value) (eg:∀ args w,(callFunc f args).run Tryz.prog w = .ok (.enter f args) w) (T:Nat->Bool)
  (hT:∀ W,Bw_ w W->∀ b,b<=1000->Kc Tryz.prog f (#[fr (loE b ps l),fr (hiE b ps l)]++lb) W (.bool (T b))) (G':T 1000=true) (L:Qa w) :
  Calls Tryz.prog 134 #[.slice a0 ps.length c0,.slice a1 ps.length c1,.func (.func f) #[] lb] w fun e w'=>Qgz w w' ps l T e:=by
 have Bh:=hd_ (fun W (hW:Bw_ w W) B hB=>Zff W ps l B a0 a1 c0 c1 (rp.below hW nr_) (rl.below hW nr_) hl hn hp hB (L.below hW));have eT:=hd_ (fun W (hW:Bw_ w W) R B b (H:Zod W R ps l B) (hb:b<=B) (hB:B<=1000)=>Zcb W R ps l B b D H hl hn hp hs hD hb hB (L.below hW));have HT:=hd_ hT;have Fu:=hd_ G';clear rp rl hs hp hT G' L;unfold fr fv at eT HT;generalize Fw:ps.length=n at *;have Hn:=hd_ Fw;clear Fw;go_enter Tryz.func134,Tryz.ntmps134;go_wp2_with fail;refine cm_ (Bh.o _ (Below.refl _ _) 32 (by decide)) ?_;rintro e w1 ⟨R0,rfl,hg,hR,hb⟩;have iG:=hd_ hg;have B1:=hd_ hb;clear hg hR hb;go_wp2_with fail
 go_loopw [9,10] (fun m p wr=>∃ (B R:Nat),32<=B/\B<=1000/\m = .int .i64 B/\p = .pointer (some ⟨R,0,none⟩)/\Hid (Zod wr R ps l B)/\Hid (Bw_ w wr)) (fun m _ _=>1000-(intOf m).toNat)
 case atStart=>exact⟨32,R0,Nat.le_refl _,by decide,rfl,rfl,iG,B1⟩
 case round =>
  obtain⟨B,R,GP,hB2,rfl,rfl,HG,HB⟩:=hrel;clear iG B1;go_wp2_with fail;refine cm_ (eT.o _ HB.o R B B HG.o nr_ hB2) ?_;rintro e w2 ⟨rfl,hb⟩;have Gt:=bt_ HB hb;have j8:=hd_ (HG.o.below hb);clear hb HG HB;have Hc:=hd_ (HT.o w2 Gt.o B hB2);cases hf:T B with
  | false =>
   rw[hf] at Hc;have nR:B<1000:=by
    rcases Nat.lt_or_ge B 1000 with h|h
    ·exact h
    ·obtain rfl:B=1000:=by omega
     rw[Fu.o] at hf;cases hf
   obtain⟨B',hB'⟩:∃ B',min (2*B) 1000=B':=⟨_,rfl⟩;have hm:min (2*(B:Int)) 1000=(B':Nat):=by omega
   have hw:IntKind.i64.wrap (2*(B:Int))=2*(B:Int):=iw_ _ (by omega);have gh:((B:Int)==1000)=false:=by rw[beq_eq_false_iff_ne];omega
   have jY:=hd_ (fun W hW=>Bh.o W hW B' (by omega));have Gj:32<=B':=by omega
   have ep:B'<=1000:=by omega
   have gJ:B<B':=by omega
   clear hf hB';go_wp2_with fail;refine cm_ Hc.o ?_;rintro e w3 ⟨rfl,hb⟩;have GY:=bt_ Gt hb;clear hb Hc Gt j8;go_wp2_with fail;refine cm_ (jY.o _ GY.o) ?_;rintro e w4 ⟨R',rfl,hg,hR,hb⟩;have Bj:=hd_ hg;have GX:=bt_ GY hb;clear hg hR hb GY jY;go_wp2_with fail;refine⟨⟨B',R',Gj,ep,rfl,rfl,Bj,GX⟩,by simp[intOf];omega⟩
  | true =>
   rw[hf] at Hc;have dp:=hd_ hf;clear hf;go_wp2_with fail;refine cm_ Hc.o ?_;rintro e w3 ⟨rfl,hb⟩;have GY:=bt_ Gt hb;have ou:=hd_ (j8.o.below hb);clear hb Hc Gt j8;go_wp2_with fail
   go_loopw [11,12] (fun u v wr=>∃ (fI:Int) (t:Nat),-1<=fI/\fI<t/\t<=B/\u = .int .i64 fI/\v = .int .i64 t/\Hid (T t=true/\(fI = -1\/T fI.toNat=false))/\Hid (Zod wr R ps l B)/\Hid (Bw_ w wr)) (fun u v _=>(intOf v-intOf u).toNat)
   case atStart=>exact⟨-1,B,Int.le_refl _,by omega,Nat.le_refl _,rfl,rfl,⟨dp.o,.inl rfl⟩,ou,GY⟩
   case round =>
    obtain⟨fI,t,aE,hf2,ht,rfl,rfl,HX,HG,HB⟩:=hrel;clear ou GY;have fg:IntKind.i64.wrap ((t:Int)-fI)=(t:Int)-fI:=iw_ _ (by omega)
    by_cases hc:1<(t:Int)-fI
    ·obtain⟨m,hm⟩:∃ m:Nat,((m:Nat):Int)=(fI+t)/2:=⟨((fI+t)/2).toNat,by omega⟩;have fS:IntKind.i64.wrap (fI+(t:Int))=fI+t:=iw_ _ (by omega);have hq:Int.tdiv (fI+(t:Int)) 2=(m:Nat):=by rw[Int.tdiv_eq_ediv_of_nonneg (by omega)];omega
     have Ia:(fI+(t:Int))/2=(m:Nat):=hm.symm;have f7:fI<m:=by omega
     have eG:m<t:=by omega
     clear hm;go_wp2_with fail;refine cm_ (eT.o _ HB.o R B m HG.o (by omega) hB2) ?_;rintro e w4 ⟨rfl,hb⟩;have GX:=bt_ HB hb;have Bj:=hd_ (HG.o.below hb);clear hb HG HB;have Hc:=hd_ (HT.o w4 GX.o m (by omega));cases hf:T m with
     | true =>
      rw[hf] at Hc;have ff:Hid (T m=true/\(fI = -1\/T fI.toNat=false)):=⟨hf,HX.o.2⟩;clear hf HX;go_wp2_with fail;refine cm_ Hc.o ?_;rintro e w5 ⟨rfl,hb⟩;have Cs:=bt_ GX hb;have j7:=hd_ (Bj.o.below hb);clear hb Hc GX Bj;go_wp2_with fail;refine⟨⟨fI,m,aE,f7,by omega,rfl,rfl,ff,j7,Cs⟩,by simp[intOf];omega⟩
     | false =>
      rw[hf] at Hc;have ff:Hid (T t=true/\((m:Int) = -1\/T ((m:Int)).toNat=false)):=⟨HX.o.1,.inr (by rw[Int.toNat_natCast];exact hf)⟩;clear hf HX;go_wp2_with fail;refine cm_ Hc.o ?_;rintro e w5 ⟨rfl,hb⟩;have Cs:=bt_ GX hb;have j7:=hd_ (Bj.o.below hb);clear hb Hc GX Bj;go_wp2_with fail;refine⟨⟨(m:Int),t,by omega,by omega,ht,rfl,rfl,ff,j7,Cs⟩,by simp[intOf];omega⟩
    ·have Lw:fI=(t:Int)-1:=by omega
     have HL:Hid (Zbk T t):=by
      refine⟨HX.o.1,?_,by omega⟩;rcases HX.o.2 with h|h
      ·left;omega
      ·by_cases h0:t=0
       ·left;exact h0
       ·right;rw[show t-1=fI.toNat by omega];exact h
     clear Lw HX;go_wp2_with fail
     go_ret3
     exact⟨R,B,t,rfl,HG.o,ht,hB2,HL.o,HB.o⟩
def Qu (l:List (Int×Int×ByteArray)):List Value:=l.flatMap fun x=>[.int .i64 x.1,.int .i64 x.2.1,.string x.2.2]
theorem Zlv(l:List (Int×Int×ByteArray)):(Qu l).length=l.length*3:=by
 unfold Qu
 induction l with
 | nil=>rfl
 | cons x l ih=>rw[List.flatMap_cons,List.length_append,ih,List.length_cons];simp;omega
theorem Zez(l m:List (Int×Int×ByteArray)):Qu (l++m)=Qu l++Qu m:=by simp[Qu]
def Zbj (n:Nat) (ps:List Int) (l:List Rat):List (Int×Int×ByteArray):=(ps.zip l).filterMap fun x=>if x.2.num=0 then none else some (x.1,(n:Int),dec (lgN x.1 n))
theorem Zn6(n:Nat)(ps:List Int)(l:List Rat)(k:Nat)(h1:k<ps.length)(h2:k<l.length):
  Zbj n (ps.take (k+1)) (l.take (k+1))=Zbj n (ps.take k) (l.take k)++(if l[k].num=0 then [] else [(ps[k],(n:Int),dec (lgN ps[k] n))]):=by
 unfold Zbj;have e:∀ n,(ps.take n).zip (l.take n)=(ps.zip l).take n:=fun n=>(List.take_zipWith ..).symm
 rw[e,e,List.take_add_one,List.getElem?_eq_getElem (by rw[List.length_zip];omega),List.filterMap_append];congr 1;rw[List.getElem_zip]
 by_cases h:l[k].num=0
 ·rw[if_pos h]
  show List.filterMap _ [(ps[k],l[k])]=[]
  rw[List.filterMap_cons,if_pos h];rfl
 ·rw[if_neg h]
  show List.filterMap _ [(ps[k],l[k])]=_
  rw[List.filterMap_cons,if_neg h];rfl
theorem Zx3(n:Nat)(ps:List Int)(l:List Rat):(Zbj n ps l).length<=ps.length:=by
 unfold Zbj;refine Nat.le_trans (List.length_filterMap_le _ _) ?_;rw[List.length_zip];omega
theorem Qgf:(Tryz.prog.info? 124).map (fun i=>(i.zero,i.size,i.bytes))=some (some (.agg #[.int .i64 0,.int .i64 0,.string ⟨#[]⟩]),3,32):=by kernel_rfl
theorem Qh3:Zbw Tryz.prog 44 124 (.agg #[.int .i64 0,.int .i64 0,.string ⟨#[]⟩]) 3 32:=⟨Tryz.underlying44,info_parts Qgf,rfl,by decide⟩
theorem Zt7(w:World)(a b:Rat):Kc Tryz.prog 135 #[fr a,fr b] w (.bool (sgE a b != 0)):=by
 have H3:=hd_ (Qbl.mk' w (itx a.num) (dec a.den) (itx b.num) (dec b.den));have Hs:=hd_ (fun W=>Zlh W a b);unfold Kc;unfold fr fv at Hs ⊢;generalize sgE a b=v at *;go_enter Tryz.func135,Tryz.ntmps135;obtain⟨k0,k1,-,-⟩:=Ka H3.o.fa;obtain⟨k2,k3,-,-⟩:=Ka H3.o.fb;go_wp2_with fail;generalize (w.alloc (.cells #[.string (itx a.num),.string (dec a.den)] 101)).alloc (.cells #[.string (itx b.num),.string (dec b.den)] 101)=W0 at *;clear k0 k1 k2 k3;refine cm_ (Hs.o _) ?_;rintro e w1 ⟨rfl,hZ⟩;have B1:=hd_ (H3.o.bel.trans (hZ.mono H3.o.bel.size));clear hZ Hs;go_wp2_with fail;go_ret;exact⟨rfl,B1.o⟩
def Zfr (sg n:Int) (a:OA_) (m c:Nat):Value := .agg #[.int .i64 sg,.int .i64 n,.slice a m c]
def Qil (w w':World) (ps:List Int) (l:List Rat) (e:Ending):Prop :=
 ∃ (n:Nat) (a:OA_) (c:Nat),e = .returned (.tuple #[Zfr (Zar n ps l) n a (Zbj n ps l).length c,.int .i64 0])/\Zbk (fun b=>Zar b ps l != 0) n/\Rd w' a (Qu (Zbj n ps l))/\Bw_ w w'
structure DcI (w w3 wr:World) (sg:Int) (n m:Nat) (a:OA_) (c:Nat) (bl:List (Int×Int×ByteArray)):Prop where
 res:wr.heap[w.heap.size]?=some (.cells #[.int .i64 0,.int .i64 0,.slice none 0 0] 46 (0,0))
 ob:wr.heap[w3.heap.size]?=some (.cells #[.int .i64 sg,.int .i64 n,.slice a m c] 46 (0,0))
 own:wr.ownsRow (w3.heap.size+1) 124 3 (.slice a m c) m (Qu bl)
 bel:Bw_ w3 wr
 sz:w3.heap.size+1<=wr.heap.size
theorem DcI.below{w w3 wr w':World}{sg:Int}{n m:Nat}{a:OA_}{c:Nat}{bl:List (Int×Int×ByteArray)}(h:DcI w w3 wr sg n m a c bl)(hb:Bw_ wr w'):DcI w w3 w' sg n m a c bl :=
 ⟨by rw[hb.block _ (Array.getElem?_eq_some_iff.1 h.res).1];exact h.res,by rw[hb.block _ (Array.getElem?_eq_some_iff.1 h.ob).1];exact h.ob,Ky h.own hb nr_,h.bel.trans (hb.mono h.bel.size),Nat.le_trans h.sz hb.size⟩
theorem Zdp(w:World)(a0 a1:OA_)(c0 c1:Nat)(ps:List Int)(l:List Rat)(rp:Rd w a0 (Vd ps))(rl:Rd w a1 (Kj l))(hi:Zi6 ps)(hl:l.length=ps.length)(hn:ps.length<=100)(hs:∀ q∈l,Sm 30 q)(GD:Qx ps=0)(L:Qa w):
  Kc Tryz.prog 78 #[.slice a0 ps.length c0,.slice a1 ps.length c1] w (.int .i64 0):=by
 have o6:Ssz (l.map qs):=fun x hx=>by
  obtain⟨q,hq,rfl⟩:=List.mem_map.1 hx;have h1:=Zco q.num 30 (by decide) (hs q hq).1;have h2:=(Yp q.den 30 (by decide)).2 (hs q hq).2;refine⟨Nat.le_trans h1 (by decide),Nat.le_trans h2 (by decide)⟩
 have h:=Zek w a0 a1 c0 c1 ps (l.map qs) rp hi (by omega) rl (by rw[List.length_map];omega) o6 L;rw[List.length_map,hl] at h;have h0:Zqg ps (l.map qs)=0:=by unfold Zqg;rw[if_pos GD,Zdj hs hl]
 rw[h0] at h;exact h
theorem Zmv{w:World}{R:Nat}{x y z z':Value}{t:TypeId}(h:w.heap[R]?=some (.cells #[x,y,z] t (0,0))):
  (w.setCell ⟨R,2,none⟩ z').heap[R]?=some (.cells #[x,y,z'] t (0,0)):=by
 have H7:=lt_of_block h;have h':w.heap[R] = .cells #[x,y,z] t (0,0):=by simpa [Array.getElem?_eq_getElem H7] using h
 show (w.heap.modify R _)[R]?=_
 rw[Array.getElem?_eq_getElem (by simpa using H7),Array.getElem_modify_self,h'];rfl
theorem Zv6{w:World}{B e:Nat}{a:OA_}{c m:Nat}{vs:List Value}{sz:Nat}(h:w.ownsRow B e sz (.slice a m c) m vs):Rd w a vs:=by
 by_cases hn:0<m
 ·obtain⟨g,cap,hv,h1,h2,h3,h4,h5⟩:=Qz h hn;simp only[Value.slice.injEq] at hv;obtain⟨rfl,-,-⟩:=hv;refine .inr ⟨g,0,rfl,h2,fun i v hi=>?_⟩;have H7:=(List.getElem?_eq_some_iff.1 hi).1;have gd:=h.1;rw[Nat.zero_add,h4 i (by omega)];exact hi
 ·obtain rfl:m=0:=by omega
  have gd:=h.1;exact .inl (List.length_eq_zero_iff.1 (by omega))
theorem DcI.push{w w3 W w5:World}{sg:Int}{n mm c d:Nat}{a a3:OA_}{bl:List (Int×Int×ByteArray)}{x:Int×Int×ByteArray}{news:List Value}(h:DcI w w3 W sg n mm a c bl)(hw:w.heap.size<w3.heap.size)
  (hnews:news=[.int .i64 x.1,.int .i64 x.2.1,.string x.2.2])
  (hg:(W.alloc (.cells news.toArray 124)).grownBy w5 (Value.slice a mm c).ownBlock) (ho:w5.ownsRow (w3.heap.size+1) 124 3 (.slice a3 (mm+1) d) (mm+1) (Qu bl++news)) :
  (∃ v,w5.cell? ⟨w3.heap.size,2,none⟩=some v)/\w5.frozen? ⟨w3.heap.size,2,none⟩=false/\DcI w w3 (w5.setCell ⟨w3.heap.size,2,none⟩ (.slice a3 (mm+1) d)) sg n (mm+1) a3 d (bl++[x]):=by
 have gl:∀ k,(Value.slice a mm c).ownBlock=some k->w3.heap.size+1<=k:=fun k hk=>(World.ownsRow.lt h.own k hk).1
 have GQ:∀ k o,k<w3.heap.size+1->W.heap[k]?=some o->w5.heap[k]?=some o:=fun k o hk ho=>by
  rw[hg.block k (by simp;have:=h.sz;omega) (fun e=>by have:=gl k e.symm;omega)];rw[((Below.refl W.heap.size W).alloc nr_ _).block k (by have:=h.sz;omega)];exact ho
 have MI:=GQ _ _ (Nat.lt_succ_self _) h.ob;obtain⟨-,-,k2,kf⟩:=Kd MI;refine⟨⟨_,k2⟩,kf 2,?_,Zmv MI,?_,?_,?_⟩
 ·rw[Below.heap_setCell _ _ _ _ (by show w.heap.size≠w3.heap.size;omega)];exact GQ _ _ (by omega) h.res
 ·have:=ownsRow_setCell_below (a:=⟨w3.heap.size,2,none⟩) ho (Nat.lt_succ_self _) (.slice a3 (mm+1) d)
  rw[Zez];subst hnews;exact this
 ·refine Below.setCell (p:=⟨w3.heap.size,2,none⟩) ?_ nr_ _;exact(h.bel.alloc h.bel.size _).grown hg (by simp;have:=h.sz;omega) (fun k hk=>by have:=gl k hk;omega)
 ·rw[World.size_setCell];have:=hg.size
  simp at this;have:=h.sz
  omega
theorem Znx(w:World)(a0 a1:OA_)(c0 c1 D:Nat)(ps:List Int)(l:List Rat)(rp:Rd w a0 (Vd ps))(rl:Rd w a1 (Kj l))(hi:Zi6 ps)(hl:l.length=ps.length)(hn:ps.length<=100)(hp:∀ p∈ps,∃ q:Nat,p=q/\(q=2\/q∈Zba))(hs:∀ q∈l,Sm D q)(hD:D<=30)
  (GD:Qx ps=0) (hnz:l.any nzQ=true) (G':Zar 1000 ps l≠0) (L:Qa w) :
  Calls Tryz.prog 56 #[.slice a0 ps.length c0,.slice a1 ps.length c1] w fun e w'=>Qil w w' ps l e:=by
 have FL:=hd_ (fun W (hW:Bw_ w W)=>Zdp W a0 a1 c0 c1 ps l (rp.below hW nr_) (rl.below hW nr_) hi hl hn (fun q hq=>(hs q hq).le hD) GD (L.below hW));have eJ:=hd_ (fun W (hW:Bw_ w W)=>Zgp W a1 c1 l (rl.below hW nr_) (by omega));rw[hnz,hl] at eJ;have dy:=hd_ (fun W (hW:Bw_ w W)=>Znk W ps l a0 a1 c0 c1 D (rp.below hW nr_) (rl.below hW nr_) hl hn hp hs (by omega) 135 #[] (Zli Tryz.func135 (by kernel_rfl) rfl) (fun b=>Zar b ps l != 0) (fun W' _ b _=>by
  have:=Zt7 W' (loE b ps l) (hiE b ps l)
  rw[Zoy] at this;exact this) (by rw[bne_iff_ne];exact G') (L.below hW))
 have eT:=hd_ (fun W (hW:Bw_ w W) R B b (H:Zod W R ps l B) (hb:b<=B) (hB:B<=1000)=>Zcb W R ps l B b D H hl hn hp hs (by omega) hb hB (L.below hW));have BU:=hd_ (fun W b=>Zlh W (loE b ps l) (hiE b ps l));have iJ:=hd_ (fun W (hW:Bw_ w W) R B b k (H:Zod W R ps l B) (hk:k<ps.length) (gX:k<l.length) (hz:l[k].num≠0) (hb:b<=B) (hB:B<=1000)=>Qci W R ps l B b k H hl hn hk gX (hp _ (List.getElem_mem hk)) hz hb hB (L.below hW));have Bf:=hd_ rp;have Bg:=hd_ rl;have Hl:=hd_ hl;have ge:Hid ((w.alloc (.cells #[.int .i64 0,.int .i64 0,.slice none 0 0] 46)).heap[w.heap.size]?=some (.cells #[.int .i64 0,.int .i64 0,.slice none 0 0] 46 (0,0))):=heap_alloc_new w _;have gm:=hd_ ((Below.refl w.heap.size w).alloc nr_ (.cells #[.int .i64 0,.int .i64 0,.slice none 0 0] 46));clear rp rl hs hp GD hnz G' L hi;unfold fr fv at eT BU;obtain⟨n,Fw⟩:∃ n,ps.length=n:=⟨_,rfl⟩;have Hn:=hd_ Fw;rw[Fw] at hn FL eJ dy ⊢;clear Fw hl;go_enter Tryz.func56,Tryz.ntmps56;go_wp2_with fail;generalize w.alloc (.cells #[.int .i64 0,.int .i64 0,.slice none 0 0] 46)=W0 at *;refine cm_ (FL.o _ gm.o) ?_;rintro e w1 ⟨rfl,hb⟩;have B1:=bt_ gm hb;have C1:=hd_ hb;clear hb FL gm;go_wp2_with fail;refine cm_ (eJ.o _ B1.o) ?_;rintro e w2 ⟨rfl,hb⟩;have B2:=bt_ B1 hb;have C2:=bt_ C1 hb;clear hb eJ B1 C1;go_wp2_with fail;refine cm_ (dy.o _ B2.o) ?_;rintro e w3a ⟨R,B,m,rfl,hg,hm,hB,hN,hb⟩;have B3:=bt_ B2 hb;have C3:=bt_ C2 hb;have HG:=hd_ hg;have HN:=hd_ hN;clear hb dy B2 C2 hg hN;go_wp2_with fail;refine cm_ (eT.o _ B3.o R B m HG.o hm hB) ?_;rintro e w3b ⟨rfl,hb⟩;have B4:=bt_ B3 hb;have C4:=bt_ C3 hb;have Bj:=hd_ (HG.o.below hb);clear hb eT B3 C3 HG;go_wp2_with fail;refine cm_ (BU.o _ m) ?_;rintro e w3 ⟨rfl,hb⟩;have B5:=bt_ B4 hb;have C5:=bt_ C4 hb;have j7:=hd_ (Bj.o.below hb);clear hb BU B4 C4 Bj;have EZ:sgE (loE m ps l) (hiE m ps l)=Zar m ps l:=Zoy m ps l;have gZ:=hd_ EZ;rw[EZ];clear EZ;obtain⟨sg,hsgd⟩:∃ sg,Zar m ps l=sg:=⟨_,rfl⟩;have Ar:Hid (sg=Zar m ps l):=hsgd.symm;rw[hsgd];clear hsgd;have fY:Hid (DcI w w3 (w3.alloc (.cells #[.int .i64 sg,.int .i64 m,.slice none 0 0] 46)) sg m 0 none 0 (Zbj m (ps.take 0) (l.take 0))):=by
  have Br:w3.heap[w.heap.size]?=some (.cells #[.int .i64 0,.int .i64 0,.slice none 0 0] 46 (0,0)):=by
   rw[C5.o.block _ (Array.getElem?_eq_some_iff.1 ge.o).1];exact ge.o
  refine⟨?_,heap_alloc_new w3 _,World.ownsRow_nil ..,(Below.refl _ _).alloc nr_ _,by simp⟩;rw[((Below.refl w3.heap.size w3).alloc nr_ _).block _ (Array.getElem?_eq_some_iff.1 Br).1];exact Br
 have Ng:Hid (w.heap.size<w3.heap.size):=by
  have:=(Array.getElem?_eq_some_iff.1 ge.o).1
  have:=C5.o.size
  show _<_
  omega
 clear ge C5;go_wp2_with fail
 go_loopw [43] (fun i wr=>∃ (k:Nat) (a:OA_) (c mm:Nat),k<=n/\i = .int .i64 k/\mm<=k/\Hid (mm=(Zbj m (ps.take k) (l.take k)).length)/\Hid (DcI w w3 wr sg m mm a c (Zbj m (ps.take k) (l.take k)))) (fun i _=>n-(intOf i).toNat)
 case atStart=>exact⟨0,none,0,0,Nat.zero_le _,rfl,Nat.le_refl _,rfl,fY⟩
 case round =>
  obtain⟨k,a,c,mm,hk,rfl,A',Hmm,HI⟩:=hrel;clear fY
  by_cases H7:k<n
  ·have gi:(k:Int)<n:=by omega
   have fA:k<ps.length:=by rw[Hn.o];exact H7
   have gX:k<l.length:=by rw[Hl.o,Hn.o];exact H7
   have Bw:=bt_ B5 HI.o.bel;obtain⟨b0,o0,rfl,Gr,fH⟩:=Bf.o.open (by rw[Qw];omega);have eA:Hid (∀ W,Bw_ w W->W.cell? ⟨b0,o0+k,none⟩=some (.int .i64 ps[k])):=fun W hW=>by
    rw[hW.cell (p:=⟨b0,o0+k,none⟩) Gr];exact fH k _ (Yn ps k fA)
   obtain⟨b1,o1,rfl,hZ,gG⟩:=Bg.o.open (by rw[Kq];omega);obtain⟨x0,x1⟩:=Qb gG k (by rw[List.length_map];exact gX);rw[Qc l k gX] at x0 x1;rw[<- Bw.o.cell (p:=⟨b1,o1+k*2,none⟩) hZ] at x0;rw[<- Bw.o.cell (p:=⟨b1,o1+k*2+1,none⟩) hZ] at x1;have ay:IntKind.i64.wrap ((k:Int)+1)=((k+1:Nat):Int):=by rw[<- Int.natCast_succ];exact iw_ _ (by omega)
   have f':=hd_ (fun W=>Zos W l[k]);have bZ:=hd_ (Zn6 m ps l k fA gX);have ej:=hd_ (fun W (hW:Bw_ w3 W) (hz:l[k].num≠0)=>iJ.o W (bu_ B5 hW) R B m k (j7.o.below hW) fA gX hz hm hB);clear fH gG;unfold fr fv at f';unfold qs at x0 x1;simp only at x0 x1;generalize l[k]=q at *;generalize ps[k]=pk at *;have Cp:=hd_ (HI.o.below ((Below.refl _ _).alloc nr_ (.cells #[.string (itx q.num),.string (dec q.den)] 101)));have k8:=Ka (heap_alloc_new wr (.cells #[.string (itx q.num),.string (dec q.den)] 101))
   by_cases hz:q.num=0
   ·have df:=bZ.o;rw[if_pos hz,List.append_nil] at df;have FM:=hd_ df;rw[hz] at f' x0 k8 Cp;clear ej df bZ hz;go_wp2_with fail;refine cm_ (f'.o _) ?_;rintro e w4 ⟨rfl,hb⟩;have gk:=hd_ (Cp.o.below hb);clear hb f' k8 Cp HI;go_wp2_with fail;refine⟨⟨k+1,a,c,mm,by omega,by go_num,by omega,by rw[FM.o];exact Hmm,by rw[FM.o];exact gk⟩,by simp[intOf];omega⟩
   ·have MT:(q.num.sign != 0)=true:=by
     rw[bne_iff_ne];intro h;exact hz (Int.sign_eq_zero_iff_zero.1 h)
    have df:=bZ.o;rw[if_neg hz] at df;have FM:=hd_ df;have Jc:=hd_ (fun W hW=>ej.o W hW hz);clear ej df bZ hz;go_wp2_with fail;refine cm_ (f'.o _) ?_;rintro e w4 ⟨rfl,hb⟩;have gk:=hd_ (Cp.o.below hb);clear hb f' k8 Cp HI x0 x1;obtain⟨k0,k1,k2,-⟩:=Kd gk.o.ob;have cp:=eA.o w4 (bu_ B5 gk.o.bel);have q0:=NW.cell k2;have q1:=NW.cell cp;have gn:Nonempty (NW w4):=⟨⟨w4,Below.refl _ _⟩⟩;have I:Hid (Bw_ w4 w4.drew):=(Below.refl _ _).drew;clear k0 k1 k2 cp;go_wp2_with fail;refine wn_ 13 [(2,0),(1,1),(2,2),(2,3),(2,4),(1,5),(2,6),(2,7),(2,8),(2,9),(0,10),(0,11),(0,12),(0,13),(2,14),(0,15)] I ?_;refine wa_ rfl ?_;go_big_quiet_step (fail);refine wq_ ?_;refine wr_ rfl ?_;go_big_quiet_step (fail);refine wq_ ?_;iterate 3 (refine wa_ rfl ?_;go_big_quiet_step (fail);refine wq_ ?_)
    refine wr_ rfl ?_;go_big_quiet_step (fail);refine wq_ ?_;iterate 4 (refine wa_ rfl ?_;go_big_quiet_step (fail);refine wq_ ?_)
    clear gn q0 q1;refine wm_ rfl ?_;go_wp2_with fail;refine cm_ (Jc.o _ (gk.o.bel.trans (I.o.mono gk.o.bel.size))) ?_;rintro e x1 ⟨rfl,hb⟩;have I1:Hid (Bw_ w4 x1):=I.o.trans (hb.mono I.o.size);clear hb I Jc;go_wp2_with fail;refine⟨⟨⟨_,I1.o⟩,rfl⟩,?_⟩;refine wm_ rfl ?_;go_wp2_with fail;refine⟨⟨⟨_,I1.o⟩,rfl⟩,?_⟩;refine wm_ rfl ?_;go_wp2_with fail;refine⟨⟨⟨_,I1.o.alloc I1.o.size _⟩,rfl⟩,?_⟩;have gE:=hd_ (gk.o.below I1.o);have fL:=hd_ gE.o.sz;refine wm_ rfl ?_
    go_wp2_with (at_builtin;refine Ku rfl (.tmp 52) (.tmp 63) 44 rfl Qh3 _ 1 [.int .i64 pk,.int .i64 m,.string (dec (lgN pk m))] rfl rfl gE.o.own fL.o rfl (by simp[Value.oneCell']) (by omega) (by omega) ?_)
    intro v' w5 gl gJ GN;obtain⟨a3,d3,rfl⟩:=Qp gl;obtain⟨⟨v2,hv2⟩,hf2,aN⟩:=gE.o.push (x:=(pk,(m:Int),dec (lgN pk m))) Ng.o rfl gJ gl;rw[<- FM.o] at aN;have Fd:=hd_ aN;have Am:Hid (mm+1=(Zbj m (ps.take (k+1)) (l.take (k+1))).length):=by
     show _=_
     rw[FM.o,List.length_append,<- Hmm.o];rfl
    clear gl gJ GN aN gE I1;go_wp2_with fail;refine wa_ rfl ?_;go_big_quiet_step (fail);refine wq_ ?_;refine wm_ rfl ?_;go_wp2_with fail;simp only[RP.walkR];go_wp2_with fail;refine⟨⟨k+1,a3,d3,mm+1,by omega,by go_num,by omega,Am,Fd⟩,by simp[intOf];omega⟩
  ·obtain rfl:k=n:=by omega
   have gi:¬ (k:Int)<k:=by omega
   have eE:Zbj m (ps.take k) (l.take k)=Zbj m ps l:=by
    rw[<- Hn.o,List.take_length,List.take_of_length_le (by rw[Hl.o,Hn.o];omega)]
   have e9:=hd_ eE;obtain⟨k0,k1,k2,-⟩:=Kd HI.o.ob;obtain⟨r0,r1,r2,rf⟩:=Kd HI.o.res;have f0:=rf 0;have f1:=rf 1;have f2:=rf 2;have Bw:=bt_ B5 HI.o.bel;have AA:Hid (Rd (((wr.setCell ⟨w.heap.size,0,none⟩ (.int .i64 sg)).setCell ⟨w.heap.size,1,none⟩ (.int .i64 m)).setCell ⟨w.heap.size,2,none⟩ (.slice a mm c)) a (Qu (Zbj m ps l))):=by
    have:=HI.o.own
    rw[eE] at this;have au:w.heap.size<w3.heap.size+1:=Nat.lt_succ_of_lt Ng.o;exact Zv6 (ownsRow_setCell_below (ownsRow_setCell_below (ownsRow_setCell_below this (a:=⟨w.heap.size,0,none⟩) au _) (a:=⟨w.heap.size,1,none⟩) au _) (a:=⟨w.heap.size,2,none⟩) au _)
   rw[eE] at Hmm;clear eE rf iJ;go_wp2;obtain⟨z0,z1,z2,hb3⟩:=Zbo (.int .i64 sg) (.int .i64 m) (.slice a mm c) r0 r1 r2 nr_ Bw.o;generalize ((wr.setCell ⟨w.heap.size,0,none⟩ (.int .i64 sg)).setCell ⟨w.heap.size,1,none⟩ (.int .i64 m)).setCell ⟨w.heap.size,2,none⟩ (.slice a mm c)=w9 at *;exact bodyPost_ret (v := .tuple #[.agg #[.int .i64 sg,.int .i64 m,.slice a mm c],.int .i64 0]) (by simp[results,Tryz.results56,go_sem,z0,z1,z2]) rfl ⟨m,a,c,by rw[<- Hmm.o,<- (show sg=Zar m ps l from Ar.o)];rfl,HN.o,AA.o,hb3⟩
theorem Zlb{p:Int}(hp:p∈Vj){n:Nat}(hn:n<=64):lgN p n<2^80:=by
 obtain⟨q,rfl,hq⟩:=Zfv (Za8 hp);have h:=Zhy hq (64-n) (n:=n) (by omega);rw[show n+(64-n)=64 by omega] at h;have ij:∀ p∈Vj,lgN p 64<2^80:=by decide +kernel
 have h2:=ij _ hp;rw[<- h];exact Nat.lt_of_le_of_lt (Nat.div_le_self _ _) h2
theorem Zxu(x:Nat):Vt x x=0:=by unfold Vt;rw[if_neg (Nat.lt_irrefl x),if_pos rfl]
theorem Zqh(w:World)(p:Int)(n:Nat)(hp:p∈Vj)(hn:n<=64):Kc Tryz.prog 65 #[Qe2 p n (dec (lgN p n))] w (.bool true):=by
 unfold Kc Qe2;have nG:=Zkq p hp;have Gu:=Zlb hp hn;have Cl:=hd_ (fun V=>Zf6 V p hp);obtain⟨sF,hs,he⟩:=Qc8 hp hn;obtain⟨m,rfl⟩:=Int.eq_ofNat_of_zero_le (show 0<=p by omega);rw[Int.toNat_natCast] at hs;have ER:0<m:=by omega
 have OI:blN m<=7:=Zx4 (by omega);have HL:=hd_ (fun V=>Zzz V m n 160 ER (by omega) (by omega) (by omega) (by decide) (by decide) sF hs);rw[he,show ((160:Nat):Int)=160 from rfl] at HL;have HR:=hd_ (fun V=>Zel V ((lgN m n:Nat):Int) (by rw[Int.natAbs_natCast];exact Zgj (Nat.lt_trans Gu (by decide +kernel))));simp only[Zh4,Int.natAbs_natCast,Kg] at HR;have ia:Vf (lgN m n):=Zay (Nat.lt_trans Gu (by decide +kernel));have HO:=hd_ (fun V r1 s1 r2 s2 (k1:IsX V r1 s1 (lgN m n)) (k2:IsX V r2 s2 (lgN m n))=>Za2 V r1 r2 s1 s2 _ _ k1.1 k2.1 (Nat.le_trans ia (by decide)));simp only[Zxu] at HO;clear hp nG Gu hs he OI ia;generalize lgN m n=x at *;generalize dec x=s at *;have ij:¬ (64:Int)<n:=by omega
 have dP:¬ (n:Int)<0:=by omega
 have NB:=hd_ (Kk w #[.int .i64 m,.int .i64 n,.string s] 124 _ rfl);have B:=hd_ ((Below.refl w.heap.size w).alloc nr_ (.cells #[.int .i64 m,.int .i64 n,.string s] 124));obtain⟨k0,k1,k2,-⟩:=Kd NB.o;go_enter Tryz.func65,Tryz.ntmps65;go_wp2_with fail;generalize w.alloc (.cells #[.int .i64 m,.int .i64 n,.string s] 124)=W0 at *;clear k0 k1 k2;refine cm_ (HR.o _) ?_;rintro e w1 ⟨a,c,rfl,hi,hb⟩;have gL:=hb.trans (((Below.refl w1.heap.size w1).alloc nr_ (.cells #[.bool false,.slice a (wN x).length c] 119)).mono hb.size);have T3:=hd_ (Kk w1 #[.bool false,.slice a (wN x).length c] 119 _ rfl);have X1:=hd_ (hi.below ((Below.refl w1.heap.size w1).alloc nr_ (.cells #[.bool false,.slice a (wN x).length c] 119)) nr_);replace NB:=hk_ NB gL;replace B:=bt_ B gL;obtain⟨k0,k1,k2,-⟩:=Kd NB.o;obtain⟨k3,k4,-,-⟩:=Ka T3.o;clear gL hi hb HR;go_wp2_with fail;generalize hg3:w1.heap.size=g3 at *;generalize w1.alloc (.cells #[.bool false,.slice a (wN x).length c] 119)=W1 at *;clear k0 k1 k2 k3 k4 hg3;refine cm_ (Cl.o _) ?_;rintro e w2 ⟨rfl,hb⟩;replace X1:=hd_ (X1.o.below hb nr_);replace NB:=hk_ NB hb;replace T3:=hk_ T3 hb;replace B:=bt_ B hb;obtain⟨k0,k1,k2,-⟩:=Kd NB.o;clear hb Cl;go_wp2_with fail;clear k0 k1 k2
 go_loopw [5] (fun wd wr=>wd = .int .i64 160/\Hid (wr=w2)) (fun _ _=>0)
 case atStart=>exact⟨rfl,rfl⟩
 case round =>
  obtain⟨rfl,Hw⟩:=hrel;have hw:=Hw.o;subst hw;clear Hw;obtain⟨k0,k1,k2,-⟩:=Kd NB.o;go_wp2_with fail;clear k0 k1 k2;refine cm_ (HL.o _) ?_;rintro e w3 ⟨a3,c3,rfl,hi,hb⟩;have X3:=hd_ hi;replace X1:=hd_ (X1.o.below hb nr_);replace T3:=hk_ T3 hb;replace B:=bt_ B hb;obtain⟨k3,k4,-,-⟩:=Ka T3.o;clear hb hi HL;go_wp2_with fail;refine cm_ (HO.o _ _ _ _ _ X3.o X1.o) ?_;rintro e w4 ⟨rfl,hb⟩;replace B:=bt_ B hb;clear hb HO;go_wp2_with fail;go_ret;exact⟨rfl,B.o⟩
def nzL (ps:List Int) (l:List Rat):List (Int×Rat):=(ps.zip l).filter fun x=>x.2.num != 0
theorem Zqi(n:Nat):∀ (ps:List Int) (l:List Rat),Zbj n ps l=(nzL ps l).map fun x=>(x.1,(n:Int),dec (lgN x.1 n))
 | [],_=>by simp[Zbj,nzL]
 | _::_,[]=>by simp[Zbj,nzL]
 | p::ps,c::l=>by
  have ih:=Zqi n ps l;unfold Zbj nzL at *
  rw[List.zip_cons_cons,List.filterMap_cons,List.filter_cons]
  by_cases h:c.num=0
  ·rw[if_pos h,if_neg (by simp[h])];exact ih
  ·rw[if_neg h,if_pos (by simp[h]),List.map_cons]
   dsimp only
   rw[ih]
theorem Zri(ps:List Int)(l:List Rat)(k:Nat)(h1:k<ps.length)(h2:k<l.length):
  nzL (ps.take (k+1)) (l.take (k+1))=nzL (ps.take k) (l.take k)++(if l[k].num=0 then [] else [(ps[k],l[k])]):=by
 unfold nzL;have e:∀ n,(ps.take n).zip (l.take n)=(ps.zip l).take n:=fun n=>(List.take_zipWith ..).symm
 rw[e,e,List.take_add_one,List.getElem?_eq_getElem (by rw[List.length_zip];omega),List.filter_append];congr 1;rw[List.getElem_zip]
 by_cases h:l[k].num=0
 ·rw[if_pos h];simp[List.filter,h]
 ·rw[if_neg h];simp[List.filter,h]
theorem Zk3{ps:List Int}{l:List Rat}{x:Int×Rat}(h:x∈nzL ps l):x.1∈ps/\x.2∈l/\x.2.num≠0:=by
 unfold nzL at h;obtain⟨h1,h2⟩:=List.mem_filter.1 h;have h3:=List.of_mem_zip h1;exact⟨h3.1,h3.2,by simpa using h2⟩
def atB (sg:Int) (n:Nat) (p:Int) (c:Rat):Nat:=lgN p n+if p≠2/\(decide (c.num<0)==decide (sg=1))=true then 1 else 0
def Zdx (sg:Int) (n:Nat) (T:List (Int×Rat)):Int×Nat:=T.foldl (fun s x=>Zuk s (x.2.num*(atB sg n x.1 x.2:Int),x.2.den*1)) (0,1)
theorem Zmi(sg:Int)(n:Nat)(T:List (Int×Rat))(x:Int×Rat):Zdx sg n (T++[x])=Zuk (Zdx sg n T) (x.2.num*(atB sg n x.1 x.2:Int),x.2.den*1):=by
 unfold Zdx;rw[List.foldl_append];rfl
def Zoc (sg:Int) (n:Nat):List (Int×Rat)->Rat
 | []=>0
 | x::T=>x.2*((atB sg n x.1 x.2:Nat):Rat)+Zoc sg n T
theorem Zmj(sg:Int)(n:Nat)(x:Int×Rat):∀ T,Zoc sg n (T++[x])=Zoc sg n T+x.2*((atB sg n x.1 x.2:Nat):Rat)
 | []=>by simp only[List.nil_append,Zoc];grind
 | y::T=>by simp only[List.cons_append,Zoc,Zmj sg n x T];grind
theorem Qdh(q:Rat):(q.num:Rat)=q*(q.den:Rat):=by
 have h:=Zax q.num q.den q.den_pos;rw[Rat.mkRat_self] at h;exact h.symm
structure SmX (G:Nat) (sg:Int) (n k:Nat) (T:List (Int×Rat)) (s:Int×Nat):Prop where
 v:(s.1:Rat)=Zoc sg n T*(s.2:Rat)
 p:0<s.2
 b1:s.1.natAbs<=G^k
 b2:s.2<=G^k
theorem Zq2(G:Nat)(sg:Int)(n:Nat):SmX G sg n 0 [] (Zdx sg n []):=by
 refine⟨?_,Nat.one_pos,Nat.zero_le _,Nat.le_refl _⟩
 show ((0:Int):Rat)=0*((1:Nat):Rat)
 rw[Rat.zero_mul];rfl
theorem Zq3{A C Q G:Nat}{sg:Int}{n k:Nat}{T:List (Int×Rat)}{x:Int×Rat}(h:SmX G sg n k T (Zdx sg n T))(hq:x.2.num.natAbs<=A)(hd:x.2.den<=Q)(ha:atB sg n x.1 x.2<=C)(hQ:A*C<=Q)(hQ1:1<=Q)(hG:2*Q<=G):
  SmX G sg n (k+1) (T++[x]) (Zdx sg n (T++[x]))/\(x.2.num*(atB sg n x.1 x.2:Int)).natAbs<=G^(k+1) /\
   ((Zdx sg n T).1*((x.2.den*1:Nat):Int)).natAbs<=G^(k+1)/\(x.2.num*(atB sg n x.1 x.2:Int)*(((Zdx sg n T).2:Nat):Int)).natAbs<=G^(k+1):=by
 obtain⟨hv,hp,hZ,HU⟩:=h;have ar:=Qdh x.2;have OB:=x.2.den_pos;have hX:1<=G^k:=Nat.pow_pos (by omega);have Ob:(x.2.num*(atB sg n x.1 x.2:Int)).natAbs<=Q:=by
  rw[Int.natAbs_mul,Int.natAbs_natCast];exact Nat.le_trans (Nat.mul_le_mul hq ha) hQ
 have MV:(((x.2.num*(atB sg n x.1 x.2:Int):Int)):Rat)=x.2*((atB sg n x.1 x.2:Nat):Rat)*((x.2.den:Nat):Rat):=by
  rw[Rat.intCast_mul,Rat.intCast_natCast,ar]
  grind
 have hs:Zoc sg n (T++[x])=Zoc sg n T+x.2*((atB sg n x.1 x.2:Nat):Rat):=Zmj sg n x T;have hx:Zdx sg n (T++[x])=Zuk (Zdx sg n T) (x.2.num*(atB sg n x.1 x.2:Int),x.2.den*1):=Zmi sg n T x;rw[Nat.mul_one] at hx ⊢;have Gg:∀ (z:Int) (d:Nat),Zdx sg n T=(z,d)->SmX G sg n (k+1) (T++[x]) (Zuk (z,d) (x.2.num*(atB sg n x.1 x.2:Int),x.2.den))/\(x.2.num*(atB sg n x.1 x.2:Int)).natAbs<=G^(k+1)/\(z*((x.2.den:Nat):Int)).natAbs<=G^(k+1)/\(x.2.num*(atB sg n x.1 x.2:Int)*((d:Nat):Int)).natAbs<=G^(k+1):=by
  intro z d hzd;rw[hzd] at hv hp hZ HU
  dsimp only at hv hp hZ HU
  clear hzd hx;generalize x.2.num*(atB sg n x.1 x.2:Int)=q at *;generalize x.2.den=e at *;have PD:(z*((e:Nat):Int)).natAbs<=G^k*Q:=by
   rw[Int.natAbs_mul,Int.natAbs_natCast];exact Nat.mul_le_mul hZ hd
  have PQ:(q*((d:Nat):Int)).natAbs<=G^k*Q:=by
   rw[Int.natAbs_mul,Int.natAbs_natCast,Nat.mul_comm];exact Nat.mul_le_mul HU Ob
  have Fx:d*e<=G^k*Q:=Nat.mul_le_mul HU hd;have Lt:0<d*e:=Nat.mul_pos hp OB;have y1:G^k<=G^k*Q:=Nat.le_mul_of_pos_right _ hQ1;have y2:Q<=G^k*Q:=Nat.le_mul_of_pos_left _ hX;have y3:2*(G^k*Q)<=G^(k+1):=by
   rw[Nat.pow_succ,<- Nat.mul_assoc,Nat.mul_comm 2,Nat.mul_assoc];exact Nat.mul_le_mul_left _ hG
  have Ep:∀ a b:Int,(a+b).natAbs<=a.natAbs+b.natAbs:=Int.natAbs_add_le;refine⟨?_,by omega,by omega,by omega⟩;unfold Zuk
  dsimp only
  by_cases h:d=e
  ·subst h;rw[if_pos rfl];refine⟨?_,hp,?_,?_⟩
   ·dsimp only
    rw[hs,Rat.intCast_add,hv,MV]
    grind
   ·dsimp only
    have:=Ep z q
    omega
   ·dsimp only
    omega
  ·rw[if_neg h];refine⟨?_,Lt,?_,?_⟩
   ·dsimp only
    rw[hs,Rat.intCast_add,Rat.intCast_mul,Rat.intCast_mul,Rat.intCast_natCast,Rat.intCast_natCast,hv,MV,Rat.natCast_mul]
    grind
   ·dsimp only
    have:=Ep (z*(e:Int)) (q*(d:Int))
    omega
   ·dsimp only
    omega
 rw[hx];exact Gg _ _ rfl
theorem Zu8{n:Nat}:∀ (ps:List Int) (l:List Rat),Zoc 1 n (nzL ps l)=loE n ps l*2^n
 | [],_=>by simp[nzL,Zoc,loE,Rat.zero_mul]
 | _::_,[]=>by simp[nzL,Zoc,loE,Rat.zero_mul]
 | p::ps,c::l=>by
  have ih:=Zu8 (n:=n) ps l;have hx:=Zi9 p n;have hy:=Zi8 p n;have fW:=Zbl p n;unfold nzL at *
  rw[List.zip_cons_cons,List.filter_cons];simp only[loE]
  by_cases h0:c.num=0
  ·rw[if_neg (by simp[h0]),ih];have c0:c=0:=Rat.num_eq_zero.1 h0;obtain⟨m1,-⟩:=Zbb fW (show (0:Rat)<=c by rw[c0];decide);rw[m1,c0,Rat.zero_mul,Rat.zero_add]
  ·rw[if_pos (by simp[h0])];simp only[Zoc];rw[ih];rcases Decidable.em (c<0) with hc|hc
   ·obtain⟨m1,-⟩:=Zd6 fW hc;have hn:c.num<0:=LN.num_neg'.2 hc;have ha:atB 1 n p c=LN.hiL (lf n) p:=by
     unfold atB LN.hiL;rw[decide_eq_true hn]
     by_cases h2:p=2
     ·rw[if_neg (by simp[h2]),if_pos h2];rfl
     ·rw[if_pos ⟨h2,rfl⟩,if_neg h2];rfl
    rw[m1,ha,<- hy]
    grind
   ·have hc:=Rat.not_lt.1 hc;obtain⟨m1,-⟩:=Zbb fW hc;have hn:¬ c.num<0:=fun h=>absurd (LN.num_neg'.1 h) (Rat.not_lt.2 hc)
    have ha:atB 1 n p c=lgN p n:=by
     unfold atB;rw[decide_eq_false hn,if_neg (by simp)];rfl
    rw[m1,ha,<- hx]
    grind
theorem Zu9{n:Nat}:∀ (ps:List Int) (l:List Rat),Zoc (-1) n (nzL ps l)=hiE n ps l*2^n
 | [],_=>by simp[nzL,Zoc,hiE,Rat.zero_mul]
 | _::_,[]=>by simp[nzL,Zoc,hiE,Rat.zero_mul]
 | p::ps,c::l=>by
  have ih:=Zu9 (n:=n) ps l;have hx:=Zi9 p n;have hy:=Zi8 p n;have fW:=Zbl p n;unfold nzL at *
  rw[List.zip_cons_cons,List.filter_cons];simp only[hiE]
  by_cases h0:c.num=0
  ·rw[if_neg (by simp[h0]),ih];have c0:c=0:=Rat.num_eq_zero.1 h0;obtain⟨-,m1⟩:=Zbb fW (show (0:Rat)<=c by rw[c0];decide);rw[m1,c0,Rat.zero_mul,Rat.zero_add]
  ·rw[if_pos (by simp[h0])];simp only[Zoc];rw[ih];rcases Decidable.em (c<0) with hc|hc
   ·obtain⟨-,m1⟩:=Zd6 fW hc;have hn:c.num<0:=LN.num_neg'.2 hc;have ha:atB (-1) n p c=lgN p n:=by
     unfold atB;rw[decide_eq_true hn,if_neg (by simp)];rfl
    rw[m1,ha,<- hx]
    grind
   ·have hc:=Rat.not_lt.1 hc;obtain⟨-,m1⟩:=Zbb fW hc;have hn:¬ c.num<0:=fun h=>absurd (LN.num_neg'.1 h) (Rat.not_lt.2 hc)
    have ha:atB (-1) n p c=LN.hiL (lf n) p:=by
     unfold atB LN.hiL;rw[decide_eq_false hn]
     by_cases h2:p=2
     ·rw[if_neg (by simp[h2]),if_pos h2];rfl
     ·rw[if_pos ⟨h2,by decide⟩,if_neg h2];rfl
    rw[m1,ha,<- hy]
    grind
def Zzc (sg z:Int):Bool:=decide (z=0)||(decide (z<0)==decide (sg<0))
theorem Zq6{G n k:Nat}{ps:List Int}{l:List Rat}(h:SmX G 1 n k (nzL ps l) (Zdx 1 n (nzL ps l))):Zzc 1 (Zdx 1 n (nzL ps l)).1=decide (0<=loE n ps l):=by
 have hv:=h.v;have hp:(0:Rat)<((Zdx 1 n (nzL ps l)).2:Rat):=Rat.natCast_pos.2 h.p;rw[Zu8] at hv;have h2:=Zl n;generalize (Zdx 1 n (nzL ps l)).1=z at *;generalize ((Zdx 1 n (nzL ps l)).2:Rat)=d at *;generalize (2:Rat)^n=t at *;generalize loE n ps l=x at *;have Bp:0<t*d:=Rat.mul_pos h2 hp;have e:(z:Rat)=x*(t*d):=by rw[hv,Rat.mul_assoc]
 have Gg:0<=z↔0<=x:=by
  constructor
  ·intro hz;refine Rat.not_lt.1 fun hx=>?_
   have h3:=Rat.mul_pos (show 0 < -x by grind) Bp;have h4:(0:Rat)<=(z:Rat):=by rw[<- Rat.intCast_zero];exact Rat.intCast_le_intCast.2 hz
   grind
  ·intro hx;have h3:=Rat.mul_nonneg hx (Rat.le_of_lt Bp);rw[<- e,<- Rat.intCast_zero] at h3;exact Rat.intCast_le_intCast.1 h3
 unfold Zzc;rw[decide_eq_false (show ¬ (1:Int)<0 by decide)]
 by_cases hx:0<=x
 ·have hz:=Gg.2 hx;rw[decide_eq_true hx,decide_eq_false (show ¬ z<0 by omega)];simp
 ·have hz:¬ 0<=z:=fun h=>hx (Gg.1 h)
  rw[decide_eq_false hx,decide_eq_true (show z<0 by omega),decide_eq_false (show ¬ z=0 by omega)];rfl
theorem Zq7{G n k:Nat}{ps:List Int}{l:List Rat}(h:SmX G (-1) n k (nzL ps l) (Zdx (-1) n (nzL ps l))):Zzc (-1) (Zdx (-1) n (nzL ps l)).1=decide (hiE n ps l<=0):=by
 have hv:=h.v;have hp:(0:Rat)<((Zdx (-1) n (nzL ps l)).2:Rat):=Rat.natCast_pos.2 h.p;rw[Zu9] at hv;have h2:=Zl n;generalize (Zdx (-1) n (nzL ps l)).1=z at *;generalize ((Zdx (-1) n (nzL ps l)).2:Rat)=d at *;generalize (2:Rat)^n=t at *;generalize hiE n ps l=x at *;have Bp:0<t*d:=Rat.mul_pos h2 hp;have e:(z:Rat)=x*(t*d):=by rw[hv,Rat.mul_assoc]
 have Gg:z<=0↔x<=0:=by
  constructor
  ·intro hz;refine Rat.not_lt.1 fun hx=>?_
   have h3:=Rat.mul_pos hx Bp;have h4:(z:Rat)<=0:=by rw[<- Rat.intCast_zero];exact Rat.intCast_le_intCast.2 hz
   grind
  ·intro hx;have h3:=Rat.mul_nonneg (show 0 <= -x by grind) (Rat.le_of_lt Bp);have h4:(z:Rat)<=0:=by grind
   rw[<- Rat.intCast_zero] at h4;exact Rat.intCast_le_intCast.1 h4
 unfold Zzc;rw[decide_eq_true (show (-1:Int)<0 by decide)]
 by_cases hx:x<=0
 ·have hz:=Gg.2 hx;rw[decide_eq_true hx];rcases Int.lt_or_eq_of_le hz with h|h
  ·rw[decide_eq_true h];simp
  ·rw[decide_eq_true h];rfl
 ·have hz:¬ z<=0:=fun h=>hx (Gg.1 h)
  rw[decide_eq_false hx,decide_eq_false (show ¬ z<0 by omega),decide_eq_false (show ¬ z=0 by omega)];rfl
structure Qew (w W:World):Prop where
 e0:W.heap[w.heap.size]?=some (.cells #[.string ⟨#[]⟩,.string ⟨#[]⟩] 101 (0,0))
 e1:W.heap[w.heap.size+1]?=some (.cells #[.string ⟨#[]⟩,.string ⟨#[]⟩] 101 (0,0))
 bel:Bw_ w W
theorem Qew.mk'(w:World):Qew w ((w.alloc (.cells #[.string ⟨#[]⟩,.string ⟨#[]⟩] 101)).alloc (.cells #[.string ⟨#[]⟩,.string ⟨#[]⟩] 101)):=by
 have h1:=heap_alloc_new w (.cells #[.string ⟨#[]⟩,.string ⟨#[]⟩] 101);have h2:=heap_alloc_new (w.alloc (.cells #[.string ⟨#[]⟩,.string ⟨#[]⟩] 101)) (.cells #[.string ⟨#[]⟩,.string ⟨#[]⟩] 101);refine⟨?_,?_,((Below.refl _ _).alloc nr_ _).alloc (by simp) _⟩
 ·rw[((Below.refl (w.alloc (.cells #[.string ⟨#[]⟩,.string ⟨#[]⟩] 101)).heap.size _).alloc nr_ _).block _ (Array.getElem?_eq_some_iff.1 h1).1];exact h1
 ·have e:(w.alloc (.cells #[.string ⟨#[]⟩,.string ⟨#[]⟩] 101)).heap.size=w.heap.size+1:=by simp
  rw[e] at h2;exact h2
theorem Qew.below{w W W':World}(h:Qew w W)(hb:Bw_ W W'):Qew w W' :=
 ⟨by rw[hb.block _ (Array.getElem?_eq_some_iff.1 h.e0).1];exact h.e0,by rw[hb.block _ (Array.getElem?_eq_some_iff.1 h.e1).1];exact h.e1,h.bel.trans (hb.mono h.bel.size)⟩
theorem Zpu{w W:World}(h:Qew w W)(x y z u:Value):∃ w9,(((W.setCell ⟨w.heap.size,0,none⟩ x).setCell ⟨w.heap.size,1,none⟩ y).setCell ⟨w.heap.size+1,0,none⟩ z).setCell ⟨w.heap.size+1,1,none⟩ u=w9 /\
  w9.heap[w.heap.size]?=some (.cells #[x,y] 101 (0,0))/\w9.heap[w.heap.size+1]?=some (.cells #[z,u] 101 (0,0))/\Bw_ w w9:=by
 have h1:=Zap (x':=x) (y':=y) h.e0;have e1:((W.setCell ⟨w.heap.size,0,none⟩ x).setCell ⟨w.heap.size,1,none⟩ y).heap[w.heap.size+1]?=some (.cells #[.string ⟨#[]⟩,.string ⟨#[]⟩] 101 (0,0)):=by
  rw[Below.heap_setCell _ _ _ _ (by show w.heap.size+1≠w.heap.size;omega),Below.heap_setCell _ _ _ _ (by show w.heap.size+1≠w.heap.size;omega)];exact h.e1
 refine⟨_,rfl,?_,Zap e1,(((h.bel.setCell (p:=⟨w.heap.size,0,none⟩) nr_ _).setCell (p:=⟨w.heap.size,1,none⟩) nr_ _).setCell (p:=⟨w.heap.size+1,0,none⟩) (Nat.le_succ _) _).setCell (p:=⟨w.heap.size+1,1,none⟩) (Nat.le_succ _) _⟩;rw[Below.heap_setCell _ _ _ _ (by show w.heap.size≠w.heap.size+1;omega),Below.heap_setCell _ _ _ _ (by show w.heap.size≠w.heap.size+1;omega)];exact h1
theorem Zt4(w:World)(a0 a1:OA_)(c0 c1 D b:Nat)(ps:List Int)(l:List Rat)(rp:Rd w a0 (Vd ps))(rl:Rd w a1 (Kj l))(hi:Zi6 ps)(hl:l.length=ps.length)(hn:ps.length<=100)(hp:∀ p∈ps,∃ q:Nat,p=q/\(q=2\/q∈Zba))(hs:∀ q∈l,Sm D q)(hD:D<=30)
  (GD:Qx ps=0) (hb:b<=1000) (L:Qa w) :
  Kc Tryz.prog 107 #[.slice a0 ps.length c0,.slice a1 ps.length c1,.int .i64 b] w (.tuple #[fr (loE b ps l),fr (hiE b ps l),.int .i64 0]):=by
 unfold Kc;have HE:=hd_ (Qew.mk' w);have FL:=hd_ (Zdp _ a0 a1 c0 c1 ps l (rp.below HE.o.bel nr_) (rl.below HE.o.bel nr_) hi hl hn (fun q hq=>(hs q hq).le hD) GD (L.below HE.o.bel));have Bh:=hd_ (fun W (hW:Bw_ w W)=>Zff W ps l b a0 a1 c0 c1 (rp.below hW nr_) (rl.below hW nr_) hl hn hp hb (L.below hW));have eT:=hd_ (fun W (hW:Bw_ w W) R (H:Zod W R ps l b)=>Zcb W R ps l b b D H hl hn hp hs (by omega) nr_ hb (L.below hW));clear rp rl hs hp GD L hi hl;generalize loE b ps l=lo at *;generalize hiE b ps l=hi at *;unfold fr fv at eT ⊢;generalize ps.length=n at *;go_enter Tryz.func107,Tryz.ntmps107;go_wp2_with fail;generalize (w.alloc (.cells #[.string ⟨#[]⟩,.string ⟨#[]⟩] 101)).alloc (.cells #[.string ⟨#[]⟩,.string ⟨#[]⟩] 101)=W0 at *;refine cm_ FL.o ?_;rintro e w1 ⟨rfl,hbx⟩;have dH:=hd_ (HE.o.below hbx);clear hbx FL HE;go_wp2_with fail;refine cm_ (Bh.o _ dH.o.bel) ?_;rintro e w2 ⟨R,rfl,hg,hR,hbx⟩;have Eb:=hd_ (dH.o.below hbx);have HG:=hd_ hg;clear hbx hg hR Bh dH;go_wp2_with fail;refine cm_ (eT.o _ Eb.o.bel R HG.o) ?_;rintro e w3 ⟨rfl,hbx⟩;have DV:=hd_ (Eb.o.below hbx);clear hbx HG eT Eb;obtain⟨k0,k1,f0,f1⟩:=Ka DV.o.e0;obtain⟨k2,k3,f2,f3⟩:=Ka DV.o.e1;go_wp2_with fail;obtain⟨w9,hw9,h0,h1,bJ⟩:=Zpu DV.o (.string (itx lo.num)) (.string (dec lo.den)) (.string (itx hi.num)) (.string (dec hi.den));rw[hw9];have HI:Hid (EnI w w9 lo hi):=⟨h0,h1,bJ⟩;clear hw9 h0 h1 bJ k0 k1 k2 k3 f0 f1 f2 f3 DV;have bH:∀ p:EnW w lo hi,p.w.cell? ⟨w.heap.size,0,none⟩=some (.string (itx lo.num)):=fun p=>p.cells.1
 have aH:∀ p:EnW w lo hi,p.w.cell? ⟨w.heap.size,1,none⟩=some (.string (dec lo.den)):=fun p=>p.cells.2.1
 have aG:∀ p:EnW w lo hi,p.w.cell? ⟨w.heap.size+1,0,none⟩=some (.string (itx hi.num)):=fun p=>p.cells.2.2.1
 have aF:∀ p:EnW w lo hi,p.w.cell? ⟨w.heap.size+1,1,none⟩=some (.string (dec hi.den)):=fun p=>p.cells.2.2.2
 have gn:Nonempty (EnW w lo hi):=⟨⟨_,HI.o⟩⟩;have AJ:=hd_ (HI.o.below (Qd w9 1));refine RP.wp_region_readers 3 [(1,0),(1,1),(0,2),(0,3),(2,4)] (fun w'=>∃ p:EnW w lo hi,w'=p.w) (by kernel_rfl) (by kernel_rfl) ?_ ?_
 ·exact⟨⟨_,AJ.o⟩,rfl⟩
 iterate 2 (refine wr_ rfl ?_;go_big_quiet_step (fail);refine wq_ ?_)
 clear gn bH aH aG aF;obtain⟨k0,k1,f0,f1⟩:=Ka HI.o.e0;have dH:=hd_ (AJ.o.put0 lo);refine wm_ rfl ?_;go_wp2_with fail;refine⟨⟨⟨_,dH.o⟩,rfl⟩,?_⟩;have Eb:Hid (EnI w ((w9.setCell ⟨w.heap.size,0,none⟩ (.string (itx lo.num))).setCell ⟨w.heap.size,1,none⟩ (.string (dec lo.den))).drew lo hi):=dH.o;clear k0 k1 f0 f1 dH AJ HI;generalize ((w9.setCell ⟨w.heap.size,0,none⟩ (.string (itx lo.num))).setCell ⟨w.heap.size,1,none⟩ (.string (dec lo.den))).drew=wz at *;obtain⟨k2,k3,f2,f3⟩:=Ka Eb.o.e1;have DV:=hd_ (Eb.o.put1 hi);refine wm_ rfl ?_;go_wp2_with fail;refine wa_ rfl ?_;go_big_quiet_step (fail);refine wq_ ?_;simp only[RP.walkR];generalize (wz.setCell ⟨w.heap.size+1,0,none⟩ (.string (itx hi.num))).setCell ⟨w.heap.size+1,1,none⟩ (.string (dec hi.den))=wy at *;clear k2 k3 f2 f3 Eb;obtain⟨z0,z1,-,-⟩:=Ka DV.o.e0;obtain⟨z2,z3,-,-⟩:=Ka DV.o.e1;go_wp2_with fail;exact bodyPost_ret (v := .tuple #[.agg #[.string (itx lo.num),.string (dec lo.den)],.agg #[.string (itx hi.num),.string (dec hi.den)],.int .i64 0]) (by simp[results,Tryz.results107,go_sem,z0,z1,z2,z3]) rfl ⟨rfl,DV.o.bel⟩
def scE (k:Nat) (x:Rat):Int:=Ztg (x*((1200*10^k:Nat):Rat))
theorem Qby(N:Nat):((N:Nat):Rat).num=N/\((N:Nat):Rat).den=1:=⟨Rat.num_natCast N,Rat.den_natCast N⟩
theorem Zhi(w:World)(x:Rat)(D k:Nat)(hx:Sm D x)(hD:D<=900000)(hk:k<=9)(L:Qa w):
  Kc Tryz.prog 188 #[fr x,.int .i64 k] w (.string (itx (scE k x))):=by
 unfold Kc;obtain⟨N,hN⟩:∃ N,1200*10^k=N:=⟨_,rfl⟩;have nN:N<=1200000000000:=by
  rw[<- hN];exact Nat.le_trans (Nat.mul_le_mul_left 1200 (Nat.pow_le_pow_right (show 0<10 by decide) hk)) (by decide)
 have LG:Sm 13 ((N:Nat):Rat):=by
  obtain⟨h1,h2⟩:=Qby N;refine⟨by rw[h1,Int.natAbs_natCast];exact Nat.lt_of_le_of_lt nN (by decide),by rw[h2];decide⟩
 have gm:=hd_ ((Below.refl w.heap.size w).alloc nr_ (.cells #[.string (itx x.num),.string (dec x.den)] 101));have F:=hd_ (Zc0.new w x);have Gh:=hd_ (fun W (hW:Bw_ w W)=>show Kc Tryz.prog 13 #[.int .i64 N] W (.string (dec N)) from by
  have:=Zaq W N (by omega) (by omega) (L.below hW)
  rw[Kg] at this;exact this)
 have Dy:=hd_ (fun W (hW:Bw_ w W)=>Qe0 W x ((N:Nat):Rat) D 13 hx LG (by omega) (L.below hW));have BM:=hd_ (fun W (hW:Bw_ w W)=>Zzq W (x*((N:Nat):Rat)) (D+13) (hx.mul LG) (by omega) (L.below hW));have hv:scE k x=Ztg (x*((N:Nat):Rat)):=by unfold scE;rw[hN]
 rw[hv];have CZ:fr ((N:Nat):Rat) = .agg #[.string (dec N),.string ⟨#[49]⟩]:=by
  obtain⟨h1,h2⟩:=Qby N;unfold fr fv;rw[h1,h2,Kg,Zt]
 rw[CZ] at Dy;have HN:Hid (∀ j,j<=k->1200*10^j<=N):=fun j hj=>by rw[<- hN];exact Nat.mul_le_mul_left _ (Nat.pow_le_pow_right (by decide) hj)
 have od:=hd_ hN;clear L hx hN hv CZ LG;generalize Ztg (x*((N:Nat):Rat))=res at *;generalize x*((N:Nat):Rat)=y at *;unfold fr fv at Dy BM ⊢;go_enter Tryz.func188,Tryz.ntmps188;go_wp2_with fail;generalize hW0:w.alloc (.cells #[.string (itx x.num),.string (dec x.den)] 101)=W0 at *
 go_loopw [5,7] (fun b i wr=>∃ (j M:Nat),j<=k/\M<=1200000000000/\b = .int .i64 M/\i = .int .i64 j/\Hid (M=1200*10^j)/\Hid (wr=W0)) (fun _ i _=>k-(intOf i).toNat)
 case atStart=>exact⟨0,1200,Nat.zero_le _,by decide,rfl,rfl,rfl,rfl⟩
 case round =>
  obtain⟨j,M,hj,hM,rfl,rfl,HM,Fv⟩:=hrel;have lD:=Fv.o;subst lD;clear Fv
  by_cases H7:j<k
  ·have gi:(j:Int)<k:=by omega
   have am:1200*10^(j+1)=M*10:=by rw[HM.o,Nat.pow_succ,Nat.mul_assoc]
   have Ga:M*10<=1200000000000:=by rw[<- am];exact Nat.le_trans (HN.o (j+1) H7) nN
   have hw:IntKind.i64.wrap ((M:Int)*10)=((M*10:Nat):Int):=by rw[show (M:Int)*10=((M*10:Nat):Int) by omega];exact iw_ _ (by omega)
   have Om:IntKind.i64.wrap ((j:Int)+1)=((j+1:Nat):Int):=by rw[<- Int.natCast_succ];exact iw_ _ (by omega)
   have AE:Hid (M*10=1200*10^(j+1)):=am.symm;clear am;go_wp2_with fail;refine⟨⟨j+1,M*10,by omega,Ga,by go_num,by go_num,AE,trivial⟩,by simp[intOf];omega⟩
  ·obtain rfl:j=k:=by omega
   have gi:¬ (j:Int)<j:=by omega
   have OP:M=N:=by rw[HM.o];exact od.o
   subst OP;obtain⟨k0,k1,-,-⟩:=Ka F.o;have q0:=NW.cell k0;have q1:=NW.cell k1;have gn:Nonempty (NW wr):=⟨⟨wr,Below.refl _ _⟩⟩;have I:Hid (Bw_ wr wr.drew):=(Below.refl _ _).drew;clear HM HN od k0 k1;go_wp2_with fail;refine wn_ 5 [(1,0),(2,1),(0,2),(0,3),(0,4),(0,5),(2,6)] I ?_;refine wr_ rfl ?_;go_big_quiet_step (fail);refine wq_ ?_;refine wa_ rfl ?_;go_big_quiet_step (fail);refine wq_ ?_;clear gn q0 q1;refine wm_ rfl ?_;go_wp2_with fail;refine cm_ (Gh.o _ (bu_ gm I.o)) ?_;rintro e w1 ⟨rfl,hb⟩;have I1:Hid (Bw_ wr w1):=I.o.trans (hb.mono I.o.size);clear hb I Gh;go_wp2_with fail;refine⟨⟨⟨_,I1.o⟩,rfl⟩,?_⟩;refine wm_ rfl ?_;go_wp2_with fail;refine⟨⟨⟨_,I1.o⟩,rfl⟩,?_⟩;refine wm_ rfl ?_;go_wp2_with fail;refine cm_ (Dy.o _ (bu_ gm I1.o)) ?_;rintro e w2 ⟨rfl,hb⟩;have I2:Hid (Bw_ wr w2):=I1.o.trans (hb.mono I1.o.size);clear hb I1 Dy;go_wp2_with fail;refine⟨⟨⟨_,I2.o⟩,rfl⟩,?_⟩;refine wm_ rfl ?_;go_wp2_with fail;refine cm_ (BM.o _ (bu_ gm I2.o)) ?_;rintro e w3 ⟨rfl,hb⟩;have I3:Hid (Bw_ w w3):=gm.o.trans ((bu_ I2 hb).mono gm.o.size);clear hb I2 BM;go_wp2_with fail;refine wa_ rfl ?_;go_big_quiet_step (fail);refine wq_ ?_;simp only[RP.walkR];go_wp2_with fail;go_ret;exact⟨rfl,I3.o⟩
end Go.Proofs.YtbielfplgbammaaGreatDoor
